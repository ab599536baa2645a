/-
  What is proved: bettering lists until none can be bettered finds the least list of turns to each turn, for each order that grows with lists.
-/
import Derived.Test.YthogdhepjcomjaaGreatDoorWatG
namespace Go.Proofs.YthogdhepjcomjaaGreatDoor
open Go Go.Proofs.YthogdhepjcomjaaGreatDoor.Wh

/-- A list of different turns of a gate that begins in time and leads to a turn. -/
inductive Way (r : S_api_Roster) (g : Int) : List Int → Int → Prop
  | one {x : Int} : inR r x = true → (tn r x).1 = g → bgI r x ≤ 0 → Way r g [x] x
  | snoc {l : List Int} {x y : Int} : Way r g l x → inR r y = true → foB r x y = true → ¬ y ∈ l → Way r g (l ++ [y]) y
theorem foB_iff {r : S_api_Roster} {x y : Int} : foB r x y = true ↔ x ≠ y ∧ (tn r x).1 = (tn r y).1 ∧ meI r x y ≤ 0 := by
  unfold foB; simp [and_assoc]
namespace Way
variable {r : S_api_Roster} {g : Int}
theorem last {l : List Int} {x : Int} (h : Way r g l x) : ∃ p, l = p ++ [x] := by
  cases h with
  | one _ _ _ => exact ⟨[], rfl⟩
  | snoc _ _ _ _ => exact ⟨_, rfl⟩
theorem ne {l : List Int} {x : Int} (h : Way r g l x) : l ≠ [] := by
  obtain ⟨p, rfl⟩ := h.last
  simp
theorem inRx {l : List Int} {x : Int} (h : Way r g l x) : inR r x = true := by
  cases h with
  | one h _ _ => exact h
  | snoc _ h _ _ => exact h
theorem gate {l : List Int} {x : Int} (h : Way r g l x) : (tn r x).1 = g := by
  induction h with
  | one _ h _ => exact h
  | snoc _ _ hf _ ih => rw [← (foB_iff.1 hf).2.1]; exact ih
theorem all {l : List Int} {x : Int} (h : Way r g l x) : ∀ y ∈ l, inR r y = true ∧ (tn r y).1 = g := by
  induction h with
  | one h1 h2 _ => intro y hy; rw [List.mem_singleton] at hy; subst hy; exact ⟨h1, h2⟩
  | snoc hw hi hf hn ih =>
    intro y hy
    rcases List.mem_append.1 hy with hy | hy
    · exact ih y hy
    · rw [List.mem_singleton] at hy; subst hy; exact ⟨hi, (Way.snoc hw hi hf hn).gate⟩
theorem nodup {l : List Int} {x : Int} (h : Way r g l x) : l.Nodup := by
  induction h with
  | one _ _ _ => simp
  | snoc _ _ _ hn ih =>
    rw [List.nodup_append]
    refine ⟨ih, by simp, fun a ha b hb e => ?_⟩
    rw [List.mem_singleton] at hb
    subst hb; subst e
    exact hn ha
end Way

/-! ### what is kept while lists are bettered -/
structure Kept (r : S_api_Roster) (g : Int) (c : List Int → List Int → Int) (O : Int → List Int) : Prop where
  way : ∀ i, O i ≠ [] → Way r g (O i) i
  pre : ∀ i q k rest, rest ≠ [] → O i = q ++ k :: rest → O k ≠ [] ∧ c (O k) (q ++ [k]) ≤ 0
def put (O : Int → List Int) (j : Int) (l : List Int) : Int → List Int := fun i => if i = j then l else O i
theorem Kept.none {r : S_api_Roster} {g : Int} {c : List Int → List Int → Int} : Kept r g c (fun _ => []) := by
  refine ⟨fun i h => absurd rfl h, fun i q k rest _ e => ?_⟩
  cases q <;> cases e
section
variable {r : S_api_Roster} {g : Int} {c : List Int → List Int → Int} (ho : Ord c) {O : Int → List Int}
include ho
/-- A list that goes on from another one, put where it is better. -/
theorem Kept.next {i j : Int} (h : Kept r g c O) (hi : O i ≠ []) (hj : inR r j = true) (hf : foB r i j = true) (hn : ¬ j ∈ O i) (hc : O j = [] ∨ c (O i ++ [j]) (O j) ≤ 0) : Kept r g c (put O j (O i ++ [j])) := by
  have hw := h.way i hi
  obtain ⟨p, hp⟩ := hw.last
  have hij : i ≠ j := (foB_iff.1 hf).1
  have key : ∀ k q, O k ≠ [] ∧ c (O k) q ≤ 0 → put O j (O i ++ [j]) k ≠ [] ∧ c (put O j (O i ++ [j]) k) q ≤ 0 := by
    intro k q ⟨h1, h2⟩
    unfold put
    split
    · rename_i e; subst e
      refine ⟨by simp, ?_⟩
      rcases hc with hc | hc
      · exact absurd hc h1
      · exact ho.trans hc h2
    · exact ⟨h1, h2⟩
  refine ⟨fun k hk => ?_, fun k q x rest hr e => ?_⟩
  · unfold put at *
    split
    · rename_i q; subst q; exact .snoc hw hj hf hn
    · rename_i q; rw [if_neg q] at hk; exact h.way k hk
  · refine key _ _ ?_
    unfold put at e
    split at e
    · -- a beginning of the new list
      obtain ⟨s, hs⟩ : ∃ s, rest = s ++ [j] := by
        have hr2 := List.dropLast_concat_getLast hr
        refine ⟨rest.dropLast, ?_⟩
        have e2 : (O i ++ [j]).getLast (by simp) = (q ++ x :: rest).getLast (by simp) := by congr 1
        rw [List.getLast_append_of_ne_nil (by simp) (by simp), List.getLast_append_of_ne_nil (by simp) (by simp), List.getLast_cons hr] at e2
        simp at e2
        rw [e2, hr2]
      subst hs
      have e3 : O i = q ++ x :: s := by
        have : O i ++ [j] = (q ++ x :: s) ++ [j] := by rw [e]; simp
        exact List.append_cancel_right this
      by_cases hs : s = []
      · subst hs
        have e4 : x = i := by
          rw [hp] at e3
          have := List.append_inj_right' e3 rfl
          simpa using this.symm
        subst e4
        refine ⟨hi, ?_⟩
        rw [← e3]
        exact ho.refl _
      · exact h.pre i q x s hs e3
    · exact h.pre k q x rest hr e
/-- What cannot be bettered is least. -/
theorem Kept.least (h : Kept r g c O) (h0 : ∀ j, inR r j = true → (tn r j).1 = g → bgI r j ≤ 0 → O j ≠ [] ∧ c (O j) [j] ≤ 0)
    (h1 : ∀ i j, O i ≠ [] → inR r j = true → foB r i j = true → ¬ j ∈ O i → O j ≠ [] ∧ c (O j) (O i ++ [j]) ≤ 0) {l : List Int} {x : Int} (hw : Way r g l x) : O x ≠ [] ∧ c (O x) l ≤ 0 := by
  induction hw with
  | one a b d => exact h0 _ a b d
  | @snoc l x y hw hi hf hn ih =>
    have ha : c (O x ++ [y]) (l ++ [y]) ≤ 0 := ho.app ih.2
    by_cases hy : y ∈ O x
    · obtain ⟨q, rest, e⟩ := List.append_of_mem hy
      obtain ⟨p, hp⟩ := (h.way x ih.1).last
      have hxy : x ≠ y := (foB_iff.1 hf).1
      have hr : rest ≠ [] := by
        rintro rfl
        rw [hp] at e
        have := List.append_inj_right' e rfl
        simp at this
        exact hxy this
      obtain ⟨h2, h3⟩ := h.pre x q y rest hr e
      refine ⟨h2, ho.trans h3 (ho.trans ?_ ha)⟩
      have : O x ++ [y] = (q ++ [y]) ++ (rest ++ [y]) := by rw [e]; simp
      rw [this]
      exact Int.le_of_lt (ho.pre (by simp))
    · obtain ⟨h2, h3⟩ := h1 x y ih.1 hi hf hy
      exact ⟨h2, ho.trans h3 ha⟩
end

/-! ### how often lists can be bettered -/
theorem filt_lt {α : Type} {p q : α → Bool} : ∀ {l : List α}, (∀ x ∈ l, p x = true → q x = true) → (∃ x ∈ l, q x = true ∧ p x = false) → (l.filter p).length < (l.filter q).length
  | [], _, ⟨x, hx, _⟩ => by cases hx
  | a :: l, h, hx => by
    have hle : (l.filter p).length ≤ (l.filter q).length := by
      rw [← List.countP_eq_length_filter, ← List.countP_eq_length_filter]
      exact List.countP_mono_left fun x hx => h x (List.mem_cons_of_mem _ hx)
    obtain ⟨x, hx, h1, h2⟩ := hx
    rcases List.mem_cons.1 hx with e | hx
    · subst e
      rw [List.filter_cons, List.filter_cons, if_neg (by rw [h2]; simp), if_pos h1, List.length_cons]
      omega
    · have ih := filt_lt (p := p) (q := q) (l := l) (fun x hx => h x (List.mem_cons_of_mem _ hx)) ⟨x, hx, h1, h2⟩
      rw [List.filter_cons, List.filter_cons]
      cases e : p a with
      | false =>
        simp only [Bool.false_eq_true, if_false]
        split
        · rw [List.length_cons]; omega
        · exact ih
      | true =>
        have := h a (List.mem_cons_self ..) e
        rw [if_pos rfl, if_pos this, List.length_cons, List.length_cons]
        omega
theorem nodup_nat {l : List Int} (h : ∀ x ∈ l, 0 ≤ x) (hn : l.Nodup) : (l.map Int.toNat).Nodup := by
  unfold List.Nodup at *
  rw [List.pairwise_map]
  refine hn.imp_of_mem fun {a b} ha hb e => ?_
  have := h a ha
  have := h b hb
  omega
end Go.Proofs.YthogdhepjcomjaaGreatDoor

/-
  What is proved: plans as lists and as ways; what can be reached, and by which ways.
-/
namespace Go.Proofs.YthogdhepjcomjaaGreatDoor
open Go Go.Proofs.YthogdhepjcomjaaGreatDoor.Wh

theorem difB_iff {l : List Int} : difB l = true ↔ l.Nodup := by
  unfold difB
  simp only [List.all_eq_true, List.mem_range, Bool.not_eq_true', List.contains_eq_any_beq, List.any_eq_false, beq_iff_eq]
  rw [List.Nodup, List.pairwise_iff_getElem]
  constructor
  · intro h i j hi hj hij e
    refine h j hj l[i] ?_ ?_
    · refine List.mem_of_getElem? (i := i) ?_
      rw [List.getElem?_take, if_pos hij, List.getElem?_eq_getElem hi]
    · rw [List.getD_eq_getElem?_getD, List.getElem?_eq_getElem hj, e]; rfl
  · intro h j hj x hx e
    obtain ⟨i, hi⟩ := List.mem_iff_getElem?.1 hx
    have hij : i < j := by
      have := (List.getElem?_eq_some_iff.1 hi).1
      rw [List.length_take] at this; omega
    rw [List.getElem?_take, if_pos hij, List.getElem?_eq_getElem (by omega)] at hi
    refine h i j (by omega) hj hij ?_
    rw [List.getD_eq_getElem?_getD, List.getElem?_eq_getElem hj] at e
    simp at hi e
    rw [hi, e]

/-! ### plans as lists -/
def linkB (r : S_api_Roster) : List Int → Bool
  | [] => true
  | [_] => true
  | x :: y :: l => decide (meI r x y ≤ 0) && linkB r (y :: l)
def planB (r : S_api_Roster) (g : Int) (l : List Int) : Bool :=
  !l.isEmpty && (difB l && (l.all (inR r) && (l.all (fun x => (tn r x).1 == g) && (decide (bgI r (l.getD 0 0) ≤ 0) && (linkB r l && decide (enI r (l.getD (l.length - 1) 0) ≤ 0))))))
theorem linkB_app {r : S_api_Roster} {x y : Int} : ∀ {p : List Int}, linkB r (p ++ [x, y]) = (linkB r (p ++ [x]) && decide (meI r x y ≤ 0))
  | [] => by simp [linkB]
  | [a] => by simp [linkB, Bool.and_comm]
  | a :: b :: p => by
    have ih := linkB_app (r := r) (x := x) (y := y) (p := b :: p)
    simp only [List.cons_append, linkB] at *
    rw [ih, Bool.and_assoc]
theorem way_go {r : S_api_Roster} {g : Int} : ∀ {l p : List Int} {x : Int}, Way r g p x → (p ++ l).Nodup → (∀ y ∈ l, inR r y = true ∧ (tn r y).1 = g) → linkB r (x :: l) = true → Way r g (p ++ l) ((x :: l).getLast (by simp))
  | [], p, x, h, _, _, _ => by simpa using h
  | y :: l, p, x, h, hn, ha, hl => by
    simp only [linkB, Bool.and_eq_true, decide_eq_true_eq] at hl
    have hy := ha y (List.mem_cons_self ..)
    rw [List.nodup_append] at hn
    have hyp : ¬ y ∈ p := fun hm => hn.2.2 y hm y (List.mem_cons_self ..) rfl
    obtain ⟨q, hq⟩ := h.last
    have hxy : x ≠ y := by
      intro e
      refine hyp ?_
      rw [hq, e]; simp
    have hw : Way r g (p ++ [y]) y := h.snoc hy.1 (foB_iff.2 ⟨hxy, by rw [h.gate, hy.2], hl.1⟩) hyp
    have := way_go (l := l) hw (by
      rw [List.append_assoc]
      exact List.nodup_append.2 hn) (fun z hz => ha z (List.mem_cons_of_mem _ hz)) hl.2
    rw [List.append_assoc] at this
    simpa using this
theorem Way.link {r : S_api_Roster} {g : Int} {l : List Int} {x : Int} (h : Way r g l x) : linkB r l = true := by
  induction h with
  | one _ _ _ => rfl
  | snoc hw _ hf _ ih =>
    obtain ⟨p, rfl⟩ := hw.last
    rw [List.append_assoc]
    show linkB r (p ++ [_, _]) = true
    rw [linkB_app, ih]
    simpa using (foB_iff.1 hf).2.2
theorem Way.head {r : S_api_Roster} {g : Int} {l : List Int} {x : Int} (h : Way r g l x) : bgI r (l.getD 0 0) ≤ 0 := by
  induction h with
  | one _ _ h => exact h
  | @snoc l x y hw _ _ _ ih =>
    cases l with
    | nil => exact absurd rfl hw.ne
    | cons a l => exact ih
theorem getD_last {l : List Int} (h : l ≠ []) : l.getD (l.length - 1) 0 = l.getLast h := by
  have : 0 < l.length := List.length_pos_iff.2 h
  rw [List.getLast_eq_getElem, List.getD_eq_getElem?_getD, List.getElem?_eq_getElem (by omega)]; rfl
theorem planB_iff {r : S_api_Roster} {g : Int} {l : List Int} : planB r g l = true ↔ ∃ x, Way r g l x ∧ enI r x ≤ 0 := by
  unfold planB
  simp only [Bool.and_eq_true, decide_eq_true_eq, List.all_eq_true, beq_iff_eq, Bool.not_eq_true', List.isEmpty_eq_false_iff, difB_iff]
  constructor
  · rintro ⟨h0, h1, h2, h3, h4, h5, h6⟩
    cases l with
    | nil => exact absurd rfl h0
    | cons a l =>
      have hw : Way r g [a] a := .one (h2 a (List.mem_cons_self ..)) (h3 a (List.mem_cons_self ..)) h4
      have := way_go (l := l) hw h1 (fun y hy => ⟨h2 y (List.mem_cons_of_mem _ hy), h3 y (List.mem_cons_of_mem _ hy)⟩) h5
      refine ⟨_, this, ?_⟩
      rw [← getD_last]; exact h6
  · rintro ⟨x, hw, he⟩
    refine ⟨hw.ne, hw.nodup, fun y hy => (hw.all y hy).1, fun y hy => (hw.all y hy).2, hw.head, hw.link, ?_⟩
    obtain ⟨p, rfl⟩ := hw.last
    rw [getD_last (by simp)]
    simpa using he

/-! ### what can be reached -/
/-- Turns that can be reached without one. -/
inductive Rch (r : S_api_Roster) (g w : Int) : Int → Prop
  | one {x : Int} : inR r x = true → (tn r x).1 = g → bgI r x ≤ 0 → x ≠ w → Rch r g w x
  | step {x y : Int} : Rch r g w x → inR r y = true → foB r x y = true → y ≠ w → Rch r g w y
theorem Way.part {r : S_api_Roster} {g : Int} {l : List Int} {x : Int} (h : Way r g l x) : ∀ y ∈ l, ∃ p, Way r g p y ∧ p <+: l := by
  induction h with
  | one h1 h2 h3 => intro y hy; rw [List.mem_singleton] at hy; subst hy; exact ⟨_, .one h1 h2 h3, List.prefix_rfl⟩
  | snoc hw hi hf hn ih =>
    intro y hy
    rcases List.mem_append.1 hy with hy | hy
    · obtain ⟨p, h1, h2⟩ := ih y hy
      exact ⟨p, h1, h2.trans (List.prefix_append _ _)⟩
    · rw [List.mem_singleton] at hy; subst hy
      exact ⟨_, .snoc hw hi hf hn, List.prefix_rfl⟩
theorem Rch.way {r : S_api_Roster} {g w x : Int} (h : Rch r g w x) : ∃ l, Way r g l x ∧ ¬ w ∈ l := by
  induction h with
  | one h1 h2 h3 h4 => exact ⟨_, .one h1 h2 h3, fun e => h4 (List.mem_singleton.1 e).symm⟩
  | @step x y _ hi hf hw ih =>
    obtain ⟨l, h1, h2⟩ := ih
    by_cases hy : y ∈ l
    · obtain ⟨p, h3, h4⟩ := h1.part y hy
      exact ⟨p, h3, fun e => h2 (h4.subset e)⟩
    · refine ⟨_, .snoc h1 hi hf hy, fun e => ?_⟩
      rcases List.mem_append.1 e with e | e
      · exact h2 e
      · exact hw (List.mem_singleton.1 e).symm
theorem Way.rch {r : S_api_Roster} {g w : Int} {l : List Int} {x : Int} (h : Way r g l x) : ¬ w ∈ l → Rch r g w x := by
  induction h with
  | one h1 h2 h3 => intro hw; exact .one h1 h2 h3 fun e => hw (by rw [e]; simp)
  | snoc hw hi hf hn ih =>
    intro h
    exact .step (ih fun e => h (List.mem_append_left _ e)) hi hf fun e => h (by rw [e]; simp)
theorem Rch.gate {r : S_api_Roster} {g w x : Int} (h : Rch r g w x) : (tn r x).1 = g := by
  obtain ⟨l, h1, _⟩ := h.way
  exact h1.gate
theorem Rch.inRx {r : S_api_Roster} {g w x : Int} (h : Rch r g w x) : inR r x = true := by
  obtain ⟨l, h1, _⟩ := h.way
  exact h1.inRx
end Go.Proofs.YthogdhepjcomjaaGreatDoor

/-
  What is proved: least weights of turns that lead to the end, and the first list of turns of least weight, turn by turn.
-/
namespace Go.Proofs.YthogdhepjcomjaaGreatDoor
open Go Go.Proofs.YthogdhepjcomjaaGreatDoor.Wh

/-- Turns, one behind the other, that lead to the end. -/
inductive Run (r : S_api_Roster) (g : Int) : Int → List Int → Prop
  | one {x : Int} : inR r x = true → (tn r x).1 = g → enI r x ≤ 0 → Run r g x [x]
  | cons {x y : Int} {l : List Int} : inR r x = true → foB r x y = true → Run r g y l → Run r g x (x :: l)
def sumf (w : Int → Int) : List Int → Int
  | [] => 0
  | x :: l => w x + sumf w l
theorem sumf_app {w : Int → Int} : ∀ {a b : List Int}, sumf w (a ++ b) = sumf w a + sumf w b
  | [], _ => by simp [sumf]
  | x :: a, b => by simp only [List.cons_append, sumf, sumf_app (a := a)]; omega
theorem sumf_nn {w : Int → Int} {l : List Int} (h : ∀ x ∈ l, 0 ≤ w x) : 0 ≤ sumf w l := by
  induction l with
  | nil => exact Int.le_refl _
  | cons a l ih =>
    have := h a (List.mem_cons_self ..)
    have := ih fun x hx => h x (List.mem_cons_of_mem _ hx)
    simp only [sumf]; omega
theorem sumf_le {w : Int → Int} {M : Int} {l : List Int} (h : ∀ x ∈ l, w x ≤ M) : sumf w l ≤ (l.length : Int) * M := by
  induction l with
  | nil => simp [sumf]
  | cons a l ih =>
    have := h a (List.mem_cons_self ..)
    have := ih fun x hx => h x (List.mem_cons_of_mem _ hx)
    simp only [sumf, List.length_cons]
    rw [Int.natCast_add, Int.add_mul]; omega
namespace Run
variable {r : S_api_Roster} {g : Int}
theorem head {x : Int} {l : List Int} (h : Run r g x l) : ∃ q, l = x :: q := by
  cases h with
  | one _ _ _ => exact ⟨[], rfl⟩
  | cons _ _ _ => exact ⟨_, rfl⟩
theorem inRx {x : Int} {l : List Int} (h : Run r g x l) : inR r x = true := by
  cases h with
  | one h _ _ => exact h
  | cons h _ _ => exact h
theorem gate {x : Int} {l : List Int} (h : Run r g x l) : (tn r x).1 = g := by
  induction h with
  | one _ h _ => exact h
  | cons _ hf _ ih => rw [(foB_iff.1 hf).2.1]; exact ih
theorem all {x : Int} {l : List Int} (h : Run r g x l) : ∀ y ∈ l, inR r y = true ∧ (tn r y).1 = g := by
  induction h with
  | one h1 h2 _ => intro y hy; rw [List.mem_singleton] at hy; subst hy; exact ⟨h1, h2⟩
  | cons h1 hf hr ih =>
    intro y hy
    rcases List.mem_cons.1 hy with e | hy
    · subst e; exact ⟨h1, (Run.cons h1 hf hr).gate⟩
    · exact ih y hy
theorem part {x : Int} {l : List Int} (h : Run r g x l) : ∀ y ∈ l, ∃ p s, Run r g y s ∧ l = p ++ s := by
  induction h with
  | one h1 h2 h3 => intro y hy; rw [List.mem_singleton] at hy; subst hy; exact ⟨[], _, .one h1 h2 h3, rfl⟩
  | @cons x y l h1 hf hr ih =>
    intro z hz
    rcases List.mem_cons.1 hz with e | hz
    · subst e; exact ⟨[], _, .cons h1 hf hr, rfl⟩
    · obtain ⟨p, s, h2, h3⟩ := ih z hz
      exact ⟨x :: p, s, h2, by rw [h3]; rfl⟩
/-- No turn twice, and no more weight. -/
theorem short {w : Int → Int} (hw : ∀ x, inR r x = true → 0 ≤ w x) {x : Int} {l : List Int} (h : Run r g x l) : ∃ l', Run r g x l' ∧ l'.Nodup ∧ sumf w l' ≤ sumf w l := by
  induction h with
  | one h1 h2 h3 => exact ⟨_, .one h1 h2 h3, by simp, Int.le_refl _⟩
  | @cons x y l h1 hf hr ih =>
    obtain ⟨l', h2, h3, h4⟩ := ih
    have h5 := hw x h1
    by_cases hx : x ∈ l'
    · obtain ⟨p, s, h6, h7⟩ := h2.part x hx
      refine ⟨s, h6, ?_, ?_⟩
      · rw [h7] at h3; exact (List.nodup_append.1 h3).2.1
      · rw [h7, sumf_app] at h4
        have := sumf_nn (w := w) (l := p) fun z hz => hw z (h2.all z (by rw [h7]; exact List.mem_append_left _ hz)).1
        simp only [sumf]; omega
    · exact ⟨x :: l', .cons h1 hf h2, List.nodup_cons.2 ⟨hx, h3⟩, by simp only [sumf]; omega⟩
theorem len {x : Int} {l : List Int} (h : Run r g x l) (hn : l.Nodup) : l.length ≤ r.2.2.2.2.length := by
  have h2 : (l.map Int.toNat).Nodup := nodup_nat (fun x hx => (inR_iff.1 (h.all x hx).1).1) hn
  have := nodup_le r.2.2.2.2.length (l.map Int.toNat) h2 fun y hy => by
    obtain ⟨a, ha, rfl⟩ := List.mem_map.1 hy
    have := inR_iff.1 (h.all a ha).1
    omega
  simpa using this
/-- A run of different turns that begins in time is a plan. -/
theorem way {x : Int} {l : List Int} (h : Run r g x l) (hn : l.Nodup) (hb : bgI r x ≤ 0) : ∃ z, Way r g l z ∧ enI r z ≤ 0 := by
  have key : ∀ {x : Int} {l : List Int}, Run r g x l → ∀ p, Way r g (p ++ [x]) x → (p ++ l).Nodup → ∃ z, Way r g (p ++ l) z ∧ enI r z ≤ 0 := by
    intro x l h
    induction h with
    | one h1 h2 h3 => intro p hp _; exact ⟨_, hp, h3⟩
    | @cons x y l h1 hf hr ih =>
      intro p hp hn
      obtain ⟨q, hq⟩ := hr.head
      have e : p ++ x :: l = (p ++ [x]) ++ l := by simp
      have hy : ¬ y ∈ p ++ [x] := by
        rw [e, List.nodup_append] at hn
        intro hm
        exact hn.2.2 y hm y (by rw [hq]; simp) rfl
      have := ih (p ++ [x]) (hp.snoc hr.inRx hf hy) (by rw [← e]; exact hn)
      rwa [← e] at this
  exact key h [] (.one h.inRx h.gate hb) hn
end Run
/-- A plan is a run from a turn that begins in time. -/
theorem Way.run {r : S_api_Roster} {g : Int} {l : List Int} {z : Int} (h : Way r g l z) (he : enI r z ≤ 0) : ∃ x, Run r g x l ∧ bgI r x ≤ 0 := by
  have key : ∀ {l : List Int} {z : Int}, Way r g l z → ∀ q, Run r g z (z :: q) → ∃ x, Run r g x (l ++ q) ∧ bgI r x ≤ 0 := by
    intro l z h
    induction h with
    | @one x h1 h2 h3 => intro q hq; exact ⟨x, hq, h3⟩
    | @snoc l x y hw hi hf hn ih =>
      intro q hq
      have := ih (y :: q) (.cons hw.inRx hf hq)
      simpa using this
  have := key h [] (.one h.inRx h.gate he)
  simpa using this

/-! ### least weights -/
structure Dist (r : S_api_Roster) (g : Int) (w : Int → Int) (R : Int → Int) : Prop where
  att : ∀ i, inR r i = true → R i < far → ∃ l, Run r g i l ∧ sumf w l = R i
  le : ∀ i l, Run r g i l → R i < far ∧ R i ≤ sumf w l
/-- The first turns of least weight. -/
inductive Gr (r : S_api_Roster) (w R : Int → Int) : Int → List Int → Prop
  | stop {x : Int} : R x - w x = 0 → Gr r w R x [x]
  | go {x y : Int} {l : List Int} : 0 < R x - w x → inR r y = true → foB r x y = true → R y = R x - w x → (∀ k, inR r k = true → foB r x k = true → R k = R x - w x → y ≤ k) → Gr r w R y l → Gr r w R x (x :: l)
theorem Gr.is {r : S_api_Roster} {g : Int} {w R : Int → Int} (hd : Dist r g w R) (hw : ∀ x, inR r x = true → 1 ≤ w x) {x : Int} {l : List Int} (h : Gr r w R x l) :
    inR r x = true → R x < far → Run r g x l ∧ sumf w l = R x ∧ l.Nodup ∧ (∀ z ∈ l, R z ≤ R x) ∧ ∀ l', Run r g x l' → sumf w l' = R x → lexI l l' ≤ 0 := by
  have pos : ∀ {x : Int} {l : List Int}, Run r g x l → 1 ≤ sumf w l := by
    intro x l h
    obtain ⟨q, hq⟩ := h.head
    have h1 := sumf_nn (w := w) (l := q) fun z hz => by have := hw z (h.all z (by rw [hq]; exact List.mem_cons_of_mem _ hz)).1; omega
    have h2 := hw x h.inRx
    rw [hq]; simp only [sumf]; omega
  induction h with
  | @stop x h =>
    intro hx hf
    have only : ∀ l', Run r g x l' → sumf w l' = R x → l' = [x] ∧ enI r x ≤ 0 := by
      intro l' h1 h2
      cases h1 with
      | one a b d => exact ⟨rfl, d⟩
      | cons a b d =>
        have := pos d
        simp only [sumf] at h2
        omega
    obtain ⟨l, h1, h2⟩ := hd.att x hx hf
    obtain ⟨e1, e2⟩ := only l h1 h2
    subst e1
    refine ⟨h1, h2, by simp, fun z hz => by rw [List.mem_singleton.1 hz]; omega, fun l' h3 h4 => ?_⟩
    rw [(only l' h3 h4).1, lexI_refl]
    omega
  | @go x y l h hy hf hR hk hg ih =>
    intro hx hfar
    have hwx := hw x hx
    obtain ⟨h1, h2, h3, h4, h5⟩ := ih hy (by omega)
    refine ⟨.cons hx hf h1, by simp only [sumf]; omega, List.nodup_cons.2 ⟨fun hm => ?_, h3⟩, fun z hz => ?_, fun l' h6 h7 => ?_⟩
    · have := h4 x hm; omega
    · rcases List.mem_cons.1 hz with e | hz
      · rw [e]; omega
      · have := h4 z hz; omega
    · cases h6 with
      | one a b d => simp only [sumf] at h7; omega
      | @cons _ y' l' a b d =>
        simp only [sumf] at h7
        have hle := (hd.le y' l' d).2
        -- no lighter than that
        obtain ⟨l2, h8, h9⟩ := hd.att y' d.inRx (hd.le y' l' d).1
        have h10 := (hd.le x (x :: l2) (.cons hx b h8)).2
        simp only [sumf] at h10
        have e : R y' = R x - w x := by omega
        have hyk := hk y' d.inRx b e
        unfold lexI
        rw [if_neg (by omega), if_neg (by omega)]
        obtain ⟨q, hq⟩ := h1.head
        obtain ⟨q', hq'⟩ := d.head
        by_cases e2 : y = y'
        · subst e2
          exact h5 l' d (by omega)
        · rw [hq, hq']
          unfold lexI
          rw [if_pos (by omega)]
          omega
/-- There are such turns. -/
theorem Gr.more {r : S_api_Roster} {g : Int} {w R : Int → Int} (hd : Dist r g w R) (hw : ∀ x, inR r x = true → 1 ≤ w x) {x : Int} (hx : inR r x = true) (hf : R x < far) : 0 ≤ R x - w x ∧ (0 < R x - w x → ∃ k, inR r k = true ∧ foB r x k = true ∧ R k = R x - w x) := by
  obtain ⟨l, h1, h2⟩ := hd.att x hx hf
  cases h1 with
  | one a b d => simp only [sumf] at h2; exact ⟨by omega, fun h => by omega⟩
  | @cons _ y l a b d =>
    simp only [sumf] at h2
    have h3 := sumf_nn (w := w) (l := l) fun z hz => by have := hw z (d.all z hz).1; omega
    refine ⟨by omega, fun _ => ⟨y, d.inRx, b, ?_⟩⟩
    have hle := (hd.le y l d)
    obtain ⟨l2, h8, h9⟩ := hd.att y d.inRx hle.1
    have h10 := (hd.le x (x :: l2) (.cons hx b h8)).2
    simp only [sumf] at h10
    omega
end Go.Proofs.YthogdhepjcomjaaGreatDoor

/-
  What is proved: the program's ways are the least ones, for each order that grows with lists.
-/
namespace Go.Proofs.YthogdhepjcomjaaGreatDoor
open Go Go.Proofs.YthogdhepjcomjaaGreatDoor.Wh

theorem selI_mem {p : Nat → Bool} {n : Nat} {x : Int} : x ∈ selI p n ↔ 0 ≤ x ∧ x < (n : Int) ∧ p x.toNat = true := by
  unfold selI
  rw [List.mem_map]
  constructor
  · rintro ⟨k, hk, rfl⟩
    rw [List.mem_filter, List.mem_range] at hk
    exact ⟨by omega, by omega, by simpa using hk.2⟩
  · rintro ⟨h1, h2, h3⟩
    exact ⟨x.toNat, List.mem_filter.2 ⟨List.mem_range.2 (by omega), h3⟩, by omega⟩
theorem f90_eq {r : S_api_Roster} {g : Int} {f : Int → Option Bool} (p : Nat → Bool) (hl : r.2.2.2.2.length ≤ 24) (h : ∀ j, j < r.2.2.2.2.length → (tnJ r j).1 = g → f (j : Int) = some (p j)) :
    M.f90 r g f = some (selI (fun j => (tnJ r j).1 == g && p j) r.2.2.2.2.length) := by
  unfold M.f90
  refine bnd (forS_st (fun j => selI (fun j => (tnJ r j).1 == g && p j) j) rfl (by omega) fun j hj => ?_) rfl
  have e1 : idx r.2.2.2.2 (j : Int) = some (tnJ r j) := idx_getD hj
  have hlen := selI_len (fun j => (tnJ r j).1 == g && p j) j
  simp only [e1, Option.bind_eq_bind, Option.bind_some, selI_succ]
  cases q : (tnJ r j).1 == g with
  | false => simp [guardO]
  | true =>
    simp only [guardO, h j hj (by simpa using q), Option.bind_some, Bool.true_and]
    cases p j with
    | false => simp
    | true => simp only [if_true, app_one (show (selI (fun j => (tnJ r j).1 == g && p j) j).length ≤ 4294967295 by omega), Option.bind_some]
def emb (n : Nat) (O : Int → List Int) : List (NL Int) := (List.range n).map fun j : Nat => ⟨O (j : Int)⟩
/-- Lists that can be compared. -/
def Good (r : S_api_Roster) (l : List Int) : Prop := l.all (inR r) = true ∧ l.length ≤ 4294967295
theorem Way.good {r : S_api_Roster} (h : Vd r) {g : Int} {l : List Int} {x : Int} (hw : Way r g l x) : Good r l ∧ l.length ≤ 24 := by
  have h2 : (l.map Int.toNat).Nodup := nodup_nat (fun x hx => (inR_iff.1 (hw.all x hx).1).1) hw.nodup
  have h3 := nodup_le r.2.2.2.2.length (l.map Int.toNat) h2 fun y hy => by
    obtain ⟨a, ha, rfl⟩ := List.mem_map.1 hy
    have := inR_iff.1 (hw.all a ha).1
    omega
  have h4 := h.len
  rw [List.length_map] at h3
  exact ⟨⟨List.all_eq_true.2 fun y hy => (hw.all y hy).1, by omega⟩, by omega⟩
/-- A comparison of the program and what it computes. -/
structure Cmp (r : S_api_Roster) (c : List Int → List Int → Int) (f : List Int → List Int → Option Int) : Prop where
  ord : Ord c
  eq : ∀ a b, Good r a → Good r b → f a b = some (c a b)
/-- One list is there, and no worse than another one. -/
def Has (c : List Int → List Int → Int) (O : Int → List Int) (x : Int) (l : List Int) : Prop := O x ≠ [] ∧ c (O x) l ≤ 0
instance {c : List Int → List Int → Int} {O : Int → List Int} {x : Int} {l : List Int} : Decidable (Has c O x l) := by unfold Has; infer_instance
theorem Has.put {c : List Int → List Int → Int} (ho : Ord c) {O : Int → List Int} {x j : Int} {l l' : List Int} (h : Has c O x l) (hl : l' ≠ []) (hb : ¬ Has c O j l') : Has c (put O j l') x l := by
  unfold Has Go.Proofs.YthogdhepjcomjaaGreatDoor.put at *
  split
  · rename_i e; subst e
    refine ⟨hl, ho.trans (Int.le_of_lt (ho.total ?_)) h.2⟩
    exact fun q => hb ⟨h.1, q⟩
  · exact h
theorem Has.not {c : List Int → List Int → Int} (ho : Ord c) {O : Int → List Int} {j : Int} {l : List Int} (h : ¬ Has c O j l) : O j = [] ∨ c l (O j) < 0 := by
  by_cases e : O j = []
  · exact .inl e
  · exact .inr (ho.total fun q => h ⟨e, q⟩)
section
variable {r : S_api_Roster} (h : Vd r) {g : Int} {c : List Int → List Int → Int} {f : List Int → List Int → Option Int} (hc : Cmp r c f)
include h hc
end
end Go.Proofs.YthogdhepjcomjaaGreatDoor

/-
  What is proved: the model of the program's ways ends, and returns the least list of turns to each turn; the least plan.
-/
namespace Go.Proofs.YthogdhepjcomjaaGreatDoor
open Go Go.Proofs.YthogdhepjcomjaaGreatDoor.Wh

/-- What ways return. -/
structure Least (r : S_api_Roster) (g : Int) (c : List Int → List Int → Int) (O : Int → List Int) : Prop where
  way : ∀ i, O i ≠ [] → Way r g (O i) i
  le : ∀ l x, Way r g l x → Has c O x l
theorem bndX {α β : Type} {P : α → Prop} {R : β → Prop} {x : Option α} {k : α → Option β} (h : ∃ y, x = some y ∧ P y) (hk : ∀ y, P y → ∃ o, k y = some o ∧ R o) : ∃ o, x.bind k = some o ∧ R o := by
  obtain ⟨y, h1, h2⟩ := h
  rw [h1]
  exact hk y h2
theorem mem_at {l : List Int} {x : Int} (h : x ∈ l) : ∃ k, k < l.length ∧ l.getD k 0 = x := by
  obtain ⟨k, hk⟩ := List.mem_iff_getElem?.1 h
  exact ⟨k, (List.getElem?_eq_some_iff.1 hk).1, by rw [List.getD_eq_getElem?_getD, hk]; rfl⟩
theorem at_mem {l : List Int} {k : Nat} (h : k < l.length) : l.getD k 0 ∈ l := by
  rw [List.getD_eq_getElem?_getD, List.getElem?_eq_getElem h]
  exact List.getElem_mem h
section
variable {r : S_api_Roster} (h : Vd r) {g : Int} {c : List Int → List Int → Int} {f : List Int → List Int → Option Int} (hc : Cmp r c f)
include h hc
end
end Go.Proofs.YthogdhepjcomjaaGreatDoor

/-
  What is proved: the program's plan is the least one; the comparisons of the program; plans that are checked.
-/
namespace Go.Proofs.YthogdhepjcomjaaGreatDoor
open Go Go.Proofs.YthogdhepjcomjaaGreatDoor.Wh

/-- The least plan; none where there is none. -/
def IsBest (r : S_api_Roster) (g : Int) (c : List Int → List Int → Int) (l : List Int) : Prop :=
  (l = [] ∧ ∀ l' z, Way r g l' z → ¬ enI r z ≤ 0) ∨ (∃ z, Way r g l z ∧ enI r z ≤ 0 ∧ ∀ l' z', Way r g l' z' → enI r z' ≤ 0 → c l l' ≤ 0)
theorem IsBest.uniq {r : S_api_Roster} {g : Int} {c : List Int → List Int → Int} (ho : Ord c) {l l' : List Int} (h : IsBest r g c l) (h' : IsBest r g c l') : l = l' := by
  rcases h with ⟨rfl, h⟩ | ⟨z, h1, h2, h3⟩
  · rcases h' with ⟨rfl, _⟩ | ⟨z', k1, k2, _⟩
    · rfl
    · exact absurd k2 (h _ _ k1)
  · rcases h' with ⟨rfl, h⟩ | ⟨z', k1, k2, k3⟩
    · exact absurd h2 (h _ _ h1)
    · exact ho.anti (h3 _ _ k1 k2) (k3 _ _ h1 h2)
theorem IsBest.plan {r : S_api_Roster} {g : Int} {c : List Int → List Int → Int} {l : List Int} (h : IsBest r g c l) : (l ≠ [] ↔ ∃ l', planB r g l' = true) ∧ (l ≠ [] → planB r g l = true) := by
  rcases h with ⟨rfl, h⟩ | ⟨z, h1, h2, h3⟩
  · refine ⟨⟨fun q => absurd rfl q, fun ⟨l', hl'⟩ => ?_⟩, fun q => absurd rfl q⟩
    obtain ⟨z, k1, k2⟩ := planB_iff.1 hl'
    exact absurd k2 (h _ _ k1)
  · exact ⟨⟨fun _ => ⟨l, planB_iff.2 ⟨z, h1, h2⟩⟩, fun _ => h1.ne⟩, fun _ => planB_iff.2 ⟨z, h1, h2⟩⟩
theorem IsBest.le {r : S_api_Roster} {g : Int} {c : List Int → List Int → Int} {l l' : List Int} (h : IsBest r g c l) (hp : planB r g l' = true) : c l l' ≤ 0 := by
  obtain ⟨z, k1, k2⟩ := planB_iff.1 hp
  rcases h with ⟨rfl, h⟩ | ⟨z', h1, h2, h3⟩
  · exact absurd k2 (h _ _ k1)
  · exact h3 _ _ k1 k2
section
variable {r : S_api_Roster} (h : Vd r) {g : Int}
include h
/-- The cheapest; the fewest. -/
def cB (r : S_api_Roster) : List Int → List Int → Int := cc (csum r) lenI
def cF (r : S_api_Roster) : List Int → List Int → Int := cc lenI (csum r)
end
end Go.Proofs.YthogdhepjcomjaaGreatDoor

/-
  What is proved: the program's visit marks what can be reached; which gates there are; what is late.
-/
namespace Go.Proofs.YthogdhepjcomjaaGreatDoor
open Go Go.Proofs.YthogdhepjcomjaaGreatDoor.Wh

theorem mget_mset (m : List (Int × Bool)) (i j : Int) (v : Bool) : mget (mset m i v) j = if j = i then v else mget m j := by
  induction m with
  | nil => simp [mset, mget]
  | cons a m ih =>
    obtain ⟨k, u⟩ := a
    unfold mset
    by_cases q : i = k
    · subst q
      rw [if_pos rfl]
      unfold mget
      by_cases q2 : j = i
      · rw [if_pos q2, if_pos q2]
      · rw [if_neg q2, if_neg q2, if_neg q2]
    · rw [if_neg q]
      unfold mget
      rw [ih]
      by_cases q2 : j = k
      · rw [if_pos q2, if_pos q2, if_neg (by rw [q2]; exact fun e => q e.symm)]
      · rw [if_neg q2, if_neg q2]
/-- What a gate's question is answered with ahead of all others. -/
def gateE (r : S_api_Roster) (g : Int) : Int := if vldB r = true then (if 0 ≤ g ∧ g < r.1 then 0 else 1) else 70
theorem f73_eq {r : S_api_Roster} {g : Int} : M.f73 r g = some (gateE r g) := by
  unfold M.f73 gateE
  rw [f47_eq]
  simp only [Option.bind_eq_bind, Option.bind_some]
  cases hv : vldB r with
  | false => rfl
  | true =>
    have h : Vd r := ⟨hv⟩
    have := hdB_iff.1 h.hd
    simp only [if_true, bne_self_eq_false, Bool.false_eq_true, if_false, f99_eq, Option.bind_some, wr_id (show -9223372036854775808 ≤ r.1 - 1 by omega) (by omega)]
    by_cases q : 0 ≤ g ∧ g < r.1
    · rw [if_pos q]
      have : (decide (0 ≤ g) && decide (g ≤ r.1 - 1)) = true := by simp; omega
      rw [this]; rfl
    · rw [if_neg q]
      have : (decide (0 ≤ g) && decide (g ≤ r.1 - 1)) = false := by
        cases e : (decide (0 ≤ g) && decide (g ≤ r.1 - 1)) with
        | false => rfl
        | true => simp at e; omega
      rw [this]; rfl
theorem gateE_zero {r : S_api_Roster} {g : Int} (h : gateE r g = 0) : Vd r ∧ 0 ≤ g ∧ g < r.1 := by
  unfold gateE at h
  split at h
  · rename_i hv
    split at h
    · rename_i hg; exact ⟨⟨hv⟩, hg.1, hg.2⟩
    · cases h
  · cases h
/-! ### visits -/
/-- How many turns are not marked. -/
def unm (n : Nat) (m : List (Int × Bool)) : Nat := ((List.range n).filter fun j : Nat => !mget m (j : Int)).length
theorem unm_le {n : Nat} {m m' : List (Int × Bool)} (h : ∀ y, mget m y = true → mget m' y = true) : unm n m' ≤ unm n m := by
  unfold unm
  rw [← List.countP_eq_length_filter, ← List.countP_eq_length_filter]
  refine List.countP_mono_left fun j _ hj => ?_
  cases e : mget m (j : Int) with
  | false => rfl
  | true => rw [h _ e] at hj; exact hj
theorem unm_lt {n : Nat} {m : List (Int × Bool)} {x : Int} (h0 : 0 ≤ x) (h1 : x < (n : Int)) (h : mget m x = false) : unm n (mset m x true) < unm n m := by
  refine filt_lt (fun j _ hj => ?_) ⟨x.toNat, List.mem_range.2 (by omega), ?_, ?_⟩
  · rw [mget_mset] at hj
    split at hj
    · cases hj
    · exact hj
  · rw [show ((x.toNat : Nat) : Int) = x by omega, h]; rfl
  · rw [show ((x.toNat : Nat) : Int) = x by omega, mget_mset, if_pos rfl]; rfl
/-- What a turn leads to is marked. -/
def Cls (r : S_api_Roster) (w : Int) (m : List (Int × Bool)) (y : Int) : Prop := ∀ z, inR r z = true → foB r y z = true → z ≠ w → mget m z = true
theorem Cls.mono {r : S_api_Roster} {w y : Int} {m m' : List (Int × Bool)} (h : ∀ y, mget m y = true → mget m' y = true) (hc : Cls r w m y) : Cls r w m' y := fun z h1 h2 h3 => h z (hc z h1 h2 h3)
section
variable {r : S_api_Roster} (h : Vd r) {g w : Int}
include h
theorem f133_so : ∀ (fuel : Nat) (m : List (Int × Bool)) (x : Int), unm r.2.2.2.2.length m < fuel → inR r x = true → (x ≠ w → Rch r g w x) →
    ∃ m', M.f133 fuel x m w r = some m' ∧ (∀ y, mget m y = true → mget m' y = true) ∧ (x ≠ w → mget m' x = true) ∧ (∀ y, mget m' y = true → mget m y = true ∨ Rch r g w y) ∧ (∀ y, mget m' y = true → mget m y = true ∨ Cls r w m' y)
  | 0, _, _, hf, _, _ => by omega
  | fuel + 1, m, x, hf, hx, hR => by
    have h24 := h.len
    have hx' := inR_iff.1 hx
    unfold M.f133
    by_cases q : x = w
    · have e : (mget m x || (x == w)) = true := by simp [q]
      rw [if_pos e]
      exact ⟨m, rfl, fun y hy => hy, fun q2 => absurd q q2, fun y hy => .inl hy, fun y hy => .inl hy⟩
    · have e0 : (x == w) = false := by simpa using q
      cases hm : mget m x with
      | true =>
        simp only [Bool.true_or, if_true]
        exact ⟨m, rfl, fun y hy => hy, fun _ => hm, fun y hy => .inl hy, fun y hy => .inl hy⟩
      | false =>
        simp only [e0, Bool.or_self, Bool.false_eq_true, if_false, Option.bind_eq_bind]
        have hu := unm_lt hx'.1 hx'.2 hm
        refine (bndX (forS_inv (N := r.2.2.2.2.length) (s := mset m x true) (fun k s => (∀ y, mget (mset m x true) y = true → mget s y = true) ∧ (∀ y, mget s y = true → mget m y = true ∨ Rch r g w y) ∧ (∀ y, mget s y = true → mget m y = true ∨ y = x ∨ Cls r w s y) ∧ ∀ j : Nat, j < k → foB r x (j : Int) = true → (j : Int) ≠ w → mget s (j : Int) = true) (by omega)
          ⟨fun y hy => hy, fun y hy => ?_, fun y hy => ?_, fun j hj => absurd hj (by omega)⟩ ?_) ?_)
        · rw [mget_mset] at hy
          split at hy
          · rename_i e; subst e; exact .inr (hR q)
          · exact .inl hy
        · rw [mget_mset] at hy
          split at hy
          · rename_i e; exact .inr (.inl e)
          · exact .inl hy
        · rintro k s hk ⟨h1, h2, h3, h4⟩
          have hk' : inR r (k : Int) = true := inR_iff.2 ⟨by omega, by omega⟩
          simp only [f95_eq h hx hk', Option.bind_some]
          cases hf2 : foB r x (k : Int) with
          | false =>
            simp only [Bool.false_eq_true, if_false, Option.bind_some]
            refine ⟨_, rfl, h1, h2, h3, fun j hj hfj hw => ?_⟩
            by_cases e : j = k
            · subst e; rw [hf2] at hfj; cases hfj
            · exact h4 j (by omega) hfj hw
          | true =>
            simp only [if_true]
            obtain ⟨m', e1, a1, a2, a3, a4⟩ := f133_so fuel s (k : Int) (by have := unm_le (n := r.2.2.2.2.length) h1; omega) hk' fun hw => .step (hR q) hk' hf2 hw
            rw [e1]
            refine ⟨_, rfl, fun y hy => a1 y (h1 y hy), fun y hy => ?_, fun y hy => ?_, fun j hj hfj hw => ?_⟩
            · rcases a3 y hy with b | b
              · exact h2 y b
              · exact .inr b
            · rcases a4 y hy with b | b
              · rcases h3 y b with b | b | b
                · exact .inl b
                · exact .inr (.inl b)
                · exact .inr (.inr (b.mono a1))
              · exact .inr (.inr b)
            · by_cases e : j = k
              · subst e; exact a2 hw
              · exact a1 _ (h4 j (by omega) hfj hw)
        · rintro s ⟨h1, h2, h3, h4⟩
          refine ⟨s, rfl, fun y hy => h1 y ?_, fun _ => h1 x ?_, h2, fun y hy => ?_⟩
          · rw [mget_mset]; split
            · rfl
            · exact hy
          · rw [mget_mset, if_pos rfl]
          · rcases h3 y hy with b | b | b
            · exact .inl b
            · subst b
              refine .inr fun z hz hf2 hw => ?_
              have hz' := inR_iff.1 hz
              have := h4 z.toNat (by omega)
              rw [show ((z.toNat : Nat) : Int) = z by omega] at this
              exact this hf2 hw
            · exact .inr b
open Classical in
/-- The turns that can be reached. -/
noncomputable def rchL (r : S_api_Roster) (g w : Int) : List Int := selI (fun j => decide (Rch r g w (j : Int))) r.2.2.2.2.length
omit h in
theorem rchL_mem {x : Int} : x ∈ rchL r g w ↔ Rch r g w x := by
  unfold rchL
  rw [selI_mem]
  constructor
  · rintro ⟨h1, h2, h3⟩
    rw [show ((x.toNat : Nat) : Int) = x by omega] at h3
    simpa using h3
  · intro h
    have := inR_iff.1 h.inRx
    refine ⟨this.1, this.2, ?_⟩
    rw [show ((x.toNat : Nat) : Int) = x by omega]
    simpa using h
omit h in
theorem selI_congr {p q : Nat → Bool} : ∀ {n : Nat}, (∀ j, j < n → p j = q j) → selI p n = selI q n
  | 0, _ => rfl
  | n + 1, hh => by rw [selI_succ, selI_succ, selI_congr (n := n) fun j hj => hh j (by omega), hh n (by omega)]
theorem f74_eq {fuel : Nat} (hf : 25 < fuel) : M.f74 fuel r g w = some (rchL r g w) := by
  have h24 := h.len
  unfold M.f74
  have e1 : M.f90 r g (fun x0 => M.f134 x0 r) = some (selI (fun j => (tnJ r j).1 == g && decide (bgI r (j : Int) ≤ 0)) r.2.2.2.2.length) := by
    refine f90_eq (fun j => decide (bgI r (j : Int) ≤ 0)) h24 fun j hj _ => ?_
    unfold M.f134
    simp only [f92_eq h (show inR r (j : Int) = true from inR_iff.2 ⟨by omega, by omega⟩), M.f93, Option.bind_eq_bind, Option.bind_some]
  simp only [e1, Option.bind_eq_bind, Option.bind_some]
  generalize hL : selI (fun j => (tnJ r j).1 == g && decide (bgI r (j : Int) ≤ 0)) r.2.2.2.2.length = L
  have hmem : ∀ x, x ∈ L ↔ inR r x = true ∧ (tn r x).1 = g ∧ bgI r x ≤ 0 := fun x => by
    rw [← hL, selI_mem, inR_iff]
    simp only [Bool.and_eq_true, beq_iff_eq, decide_eq_true_eq]
    constructor
    · rintro ⟨a, b, d, e⟩
      rw [show ((x.toNat : Nat) : Int) = x by omega] at e
      exact ⟨⟨a, b⟩, d, e⟩
    · rintro ⟨⟨a, b⟩, d, e⟩
      refine ⟨a, b, d, ?_⟩
      rw [show ((x.toNat : Nat) : Int) = x by omega]; exact e
  have hLl : L.length ≤ 24 := by rw [← hL]; exact Nat.le_trans (selI_len _ _) h24
  have hun : ∀ m, unm r.2.2.2.2.length m ≤ 24 := fun m => Nat.le_trans (List.length_filter_le _ _) (by simpa using h24)
  refine Exists.elim (forS_inv (N := L.length) (s := ([] : List (Int × Bool))) (f := fun i_5 s_7 => (idx L i_5).bind fun v_11 => (M.f133 fuel v_11 s_7 w r).bind fun z_13 => some z_13)
    (fun k s => (∀ y, mget s y = true → Rch r g w y) ∧ (∀ y, mget s y = true → Cls r w s y) ∧ ∀ j, j < k → L.getD j 0 ≠ w → mget s (L.getD j 0) = true) (by omega) (by simp [mget]) ?_) ?_
  · rintro k s hk ⟨h1, h2, h3⟩
    obtain ⟨a, b, d⟩ := (hmem _).1 (at_mem hk)
    obtain ⟨m', e1, a1, a2, a3, a4⟩ := f133_so h (g := g) (w := w) fuel s (L.getD k 0) (by have := hun s; omega) a fun hw => .one a b d hw
    simp only [idx_getD (d := (0 : Int)) hk, Option.bind_some, e1]
    refine ⟨_, rfl, fun y hy => ?_, fun y hy => ?_, fun j hj hw => ?_⟩
    · rcases a3 y hy with q | q
      · exact h1 y q
      · exact q
    · rcases a4 y hy with q | q
      · exact (h2 y q).mono a1
      · exact q
    · by_cases e : j = k
      · subst e; exact a2 hw
      · exact a1 _ (h3 j (by omega) hw)
  · rintro s ⟨hs, h1, h2, h3⟩
    rw [hs]
    simp only [Option.bind_some]
    have hrch : ∀ x, mget s x = true ↔ Rch r g w x := by
      intro x
      refine ⟨h1 x, fun hr => ?_⟩
      induction hr with
      | @one x a b d e =>
        obtain ⟨j, hj, hje⟩ := mem_at ((hmem x).2 ⟨a, b, d⟩)
        have := h3 j hj (by rw [hje]; exact e)
        rwa [hje] at this
      | @step x y hr hi hf hw ih => exact h2 x ih y hi hf hw
    rw [f90_eq (fun j => mget s (j : Int)) h24 fun j _ _ => rfl]
    simp only [Option.bind_some, Option.some.injEq]
    unfold rchL
    refine selI_congr fun j hj => ?_
    apply Bool.eq_iff_iff.2
    simp only [Bool.and_eq_true, beq_iff_eq, hrch, decide_eq_true_eq]
    exact ⟨fun q => q.2, fun q => ⟨q.gate, q⟩⟩
theorem f77_eq {l : List Int} (hl : l.length ≤ 4294967296) (ha : ∀ x ∈ l, inR r x = true) : M.f77 r l = some (l.any fun x => decide (enI r x ≤ 0)) := by
  unfold M.f77
  rw [f42_eq (fun x => decide (enI r x ≤ 0)) hl fun x hx => ?_]
  · rfl
  · unfold M.f137
    simp only [f102_eq h (ha x hx), M.f93, Option.bind_eq_bind, Option.bind_some]
end
end Go.Proofs.YthogdhepjcomjaaGreatDoor

/-
  What is proved: what the program's questions about plans and gaps return.
-/
namespace Go.Proofs.YthogdhepjcomjaaGreatDoor
open Go Go.Proofs.YthogdhepjcomjaaGreatDoor.Wh

theorem linkB_all {r : S_api_Roster} : ∀ l : List Int, linkB r l = (List.range (l.length - 1)).all fun k => decide (meI r (l.getD k 0) (l.getD (k + 1) 0) ≤ 0)
  | [] => rfl
  | [_] => rfl
  | x :: y :: l => by
    have ih := linkB_all (r := r) (y :: l)
    unfold linkB
    rw [ih]
    simp only [List.length_cons, Nat.add_sub_cancel]
    rw [List.range_succ_eq_map, List.all_cons, List.all_map]
    rfl
/-- What the lags of turns are. -/
def meP (r : S_api_Roster) (l : List Int) (k : Nat) : S_watch_lag := (meI r (l.getD k 0) (l.getD (k + 1) 0), (tn r (l.getD k 0)).2.2.2.1 == (tn r (l.getD (k + 1) 0)).2.1)
def bgP (r : S_api_Roster) (l : List Int) : S_watch_lag := (bgI r (l.getD 0 0), (0 : Int) == (tn r (l.getD 0 0)).2.1)
def enP (r : S_api_Roster) (l : List Int) : S_watch_lag := (enI r (l.getD (l.length - 1) 0), (tn r (l.getD (l.length - 1) 0)).2.2.2.1 == (0 : Int))
def lagF (r : S_api_Roster) (l : List Int) (j : Nat) : List S_watch_lag := bgP r l :: (List.range j).map (meP r l)
section
variable {r : S_api_Roster} (h : Vd r) {g : Int} {l : List Int}
include h
/-- Lags, handed one by one to a function that returns always. -/
theorem f127_eq {σ : Type} {fuel : Nat} {f : σ → S_watch_lag → Option σ} {s0 : σ} (G : Nat → σ) (E : σ) (hl : 0 < l.length) (hl2 : l.length ≤ 4294967295) (hf : l.length < fuel) (ha : l.all (inR r) = true)
    (h0 : f s0 (bgP r l) = some (G 0)) (h1 : ∀ j, j + 1 < l.length → f (G j) (meP r l j) = some (G (j + 1))) (h2 : f (G (l.length - 1)) (enP r l) = some E) : M.f127 fuel r l f s0 = some E := by
  have hi : ∀ j, j < l.length → inR r (l.getD j 0) = true := fun j hj => all_get ha hj
  unfold M.f127
  have e0 : idx l 0 = some (l.getD 0 0) := idx_getD (j := 0) hl
  have eL : idx l (wr ((l.length : Int) - 1)) = some (l.getD (l.length - 1) 0) := by
    rw [wr_id (by omega) (by omega), show (l.length : Int) - 1 = ((l.length - 1 : Nat) : Int) by omega]
    exact idx_getD (by omega)
  simp only [e0, f92_eq h (hi 0 hl), Option.bind_eq_bind, Option.bind_some]
  have h0' : f s0 (bgI r (l.getD 0 0), (0 : Int) == (tn r (l.getD 0 0)).2.1) = some (G 0) := h0
  rw [h0']
  simp only [Option.bind_some]
  refine bnd (loopM_go (N := l.length - 1) (fun j : Nat => (((j + 1 : Nat) : Int), G j)) (G (l.length - 1)) (by simp) (by omega) (fun j hj => ?_) ?_) ?_
  · have e1 : idx l (wr (((j + 1 : Nat) : Int) - 1)) = some (l.getD j 0) := by
      rw [wr_id (by omega) (by omega), show (((j + 1 : Nat) : Int) - 1) = (j : Int) by omega]
      exact idx_getD (by omega)
    have e2 : idx l ((j + 1 : Nat) : Int) = some (l.getD (j + 1) 0) := idx_getD (by omega)
    simp only [lt_dec (show j + 1 < l.length by omega), if_true, e1, e2, f149_eq h (hi j (by omega)) (hi (j + 1) (by omega)), Option.bind_some]
    have h1' : f (G j) (meI r (l.getD j 0) (l.getD (j + 1) 0), (tn r (l.getD j 0)).2.2.2.1 == (tn r (l.getD (j + 1) 0)).2.1) = some (G (j + 1)) := h1 j (by omega)
    rw [h1', wr_succ (by omega)]
    rfl
  · have : decide (((l.length - 1 + 1 : Nat) : Int) < (l.length : Int)) = false := by simp; omega
    rw [if_neg (by rw [this]; simp)]
  · have h2' : f (G (l.length - 1)) (enI r (l.getD (l.length - 1) 0), (tn r (l.getD (l.length - 1) 0)).2.2.2.1 == (0 : Int)) = some E := h2
    simp only [eL, f102_eq h (hi (l.length - 1) (by omega)), Option.bind_some, h2']
omit h in
theorem f156_eq {ls : List S_watch_lag} (hl : ls.length ≤ 4294967296) : M.f156 ls (fun x0 => M.f93 x0) = some (ls.all fun x => decide (x.1 ≤ 0)) := by
  unfold M.f156 M.f165 M.f170
  have h1 : ∀ x : S_watch_lag, M.f166 x (fun x0 => M.f93 x0) = some (!decide (x.1 ≤ 0)) := fun x => rfl
  simp only [Option.bind_eq_bind]
  have e : (forM (ρ := Int) 0 (ls.length : Int) (() : Unit) fun i_1 s_3 => (idx ls i_1).bind fun v_7 => (M.f166 v_7 (fun x0 => M.f93 x0)).bind fun v_9 => (if v_9 = true then some (Out.leave i_1) else some (Out.again ()))) =
      some (match ls.findIdx? (fun x => !decide (x.1 ≤ 0)) with | none => Out.again () | some k => Out.leave (k : Int)) := forM_idx ls (fun x => !decide (x.1 ≤ 0)) hl fun j x hx => by
    simp only [idx_nat, hx, Option.bind_some, h1]
    cases decide (x.1 ≤ 0) <;> rfl
  rw [e]
  have e2 := idxF_any (fun x : S_watch_lag => !decide (x.1 ≤ 0)) ls
  unfold idxF at e2
  rw [List.all_eq_not_any_not, ← e2]
  cases ls.findIdx? (fun x => !decide (x.1 ≤ 0)) <;> rfl
omit h in
theorem lagF_len {j : Nat} : (lagF r l j).length = j + 1 := by unfold lagF; simp
theorem lags_eq {fuel : Nat} (hlen : 0 < l.length) (hl2 : l.length ≤ 100) (hf : 100 < fuel) (ha : l.all (inR r) = true) : M.f127 fuel r l (fun s_ a_ => M.f155 a_ s_) [] = some (lagF r l (l.length - 1) ++ [enP r l]) := by
  have step : ∀ j x, j ≤ 100 → M.f155 x (lagF r l j) = some (lagF r l j ++ [x]) := fun j x hj => by
    unfold M.f155
    rw [app_one (show (lagF r l j).length ≤ 4294967295 by rw [lagF_len]; omega)]; rfl
  refine f127_eq h (lagF r l) _ hlen (by omega) (by omega) ha ?_ (fun j hj => ?_) ?_
  · unfold M.f155
    rw [app_one (show ([] : List S_watch_lag).length ≤ 4294967295 by simp)]; rfl
  · rw [step j _ (by omega)]
    unfold lagF
    rw [List.range_succ, List.map_append]
    rfl
  · exact step _ _ (by omega)
omit h in
theorem lags_len (hl2 : l.length ≤ 100) : (lagF r l (l.length - 1) ++ [enP r l]).length ≤ 4294967296 := by rw [List.length_append, lagF_len, List.length_singleton]; omega
omit h in
theorem lags_all : ((lagF r l (l.length - 1) ++ [enP r l]).all fun x => decide (x.1 ≤ 0)) = (decide (bgI r (l.getD 0 0) ≤ 0) && (linkB r l && decide (enI r (l.getD (l.length - 1) 0) ≤ 0))) := by
  rw [linkB_all]
  unfold lagF
  rw [List.all_append, List.all_cons, List.all_map, List.all_cons, List.all_nil, Bool.and_true, Bool.and_assoc]
  rfl
theorem f118_eq {fuel : Nat} (hl2 : l.length ≤ 100) (hf : 100 < fuel) : M.f118 fuel r g l = some (planB r g l) := by
  unfold M.f118 planB
  by_cases h0 : l = []
  · subst h0; simp [guardO]
  have hlen : 0 < l.length := List.length_pos_iff.2 h0
  have e0 : ((l.length : Int) == 0) = false := by rw [beq_eq_false_iff_ne]; omega
  have e1 : l.isEmpty = false := by rw [List.isEmpty_eq_false_iff]; exact h0
  have e86 : M.f86 l = some (difB l) := f86_eq (by omega)
  have e85 : M.f85 r l = some (if l.all (inR r) = true then 0 else 1) := by rw [f85_eq (by omega), if_pos h.h]
  rw [e0, e1, e86, e85]
  simp only [Bool.not_false, Bool.false_or, Bool.true_and, guardO, Option.bind_eq_bind, Option.bind_some]
  cases hd : difB l with
  | false => rfl
  | true =>
    simp only [Bool.not_true, Bool.not_false, Bool.false_or, Bool.true_and, Option.bind_some]
    cases ha : l.all (inR r) with
    | false => rfl
    | true =>
      simp only [if_true, bne_self_eq_false, Bool.false_eq_true, if_false, Bool.true_and]
      have e2 : M.f42 l (fun x0 => M.f154 x0 r g) = some (l.any fun x => !((tn r x).1 == g)) := f42_eq _ (by omega) fun x hx => by
        unfold M.f154
        simp only [Vd.idxT (List.all_eq_true.1 ha x hx), Option.bind_eq_bind, Option.bind_some]
        rfl
      simp only [e2, Option.bind_some]
      have e3 : (l.any fun x => !((tn r x).1 == g)) = !l.all (fun x => (tn r x).1 == g) := by rw [List.all_eq_not_any_not, Bool.not_not]
      rw [e3]
      cases l.all (fun x => (tn r x).1 == g) with
      | false => rfl
      | true =>
        simp only [Bool.not_true, Bool.false_eq_true, if_false, Bool.true_and]
        rw [lags_eq h hlen hl2 hf ha, Option.bind_some, f156_eq (lags_len hl2), Option.bind_some, lags_all]
/-! ### gaps -/
omit h in
theorem rchL_len {w : Int} : (rchL r g w).length ≤ r.2.2.2.2.length := selI_len _ _
end
end Go.Proofs.YthogdhepjcomjaaGreatDoor

/-
  What is proved: what can be reached is a gap, if there is no plan; a gap has all that can be reached.
-/
namespace Go.Proofs.YthogdhepjcomjaaGreatDoor
open Go Go.Proofs.YthogdhepjcomjaaGreatDoor.Wh

section
variable {r : S_api_Roster} (h : Vd r) {g : Int}
include h
theorem IsBest.len {c : List Int → List Int → Int} {l : List Int} (hb : IsBest r g c l) : l.length ≤ 24 := by
  rcases hb with ⟨rfl, _⟩ | ⟨z, h1, _⟩
  · simp
  · exact (h1.good h).2
omit h in
theorem rch_late : (rchL r g (-1)).any (fun x => decide (enI r x ≤ 0)) = true ↔ ∃ l, planB r g l = true := by
  rw [List.any_eq_true]
  constructor
  · rintro ⟨x, hx, he⟩
    obtain ⟨l, hw, _⟩ := (rchL_mem.1 hx).way
    exact ⟨l, planB_iff.2 ⟨x, hw, by simpa using he⟩⟩
  · rintro ⟨l, hl⟩
    obtain ⟨x, hw, he⟩ := planB_iff.1 hl
    refine ⟨x, rchL_mem.2 (hw.rch fun hm => ?_), by simpa using he⟩
    have := inR_iff.1 (hw.all _ hm).1
    omega
end
end Go.Proofs.YthogdhepjcomjaaGreatDoor

/-
  What is proved: what the program's prices are, and how they are checked.
-/
namespace Go.Proofs.YthogdhepjcomjaaGreatDoor
open Go Go.Proofs.YthogdhepjcomjaaGreatDoor.Wh

theorem IsBest.good {r : S_api_Roster} (h : Vd r) {g : Int} {c : List Int → List Int → Int} {l : List Int} (hb : IsBest r g c l) : Good r l := by
  rcases hb with ⟨rfl, _⟩ | ⟨z, h1, _⟩
  · exact ⟨rfl, by simp⟩
  · exact (h1.good h).1
section
variable {r : S_api_Roster} (h : Vd r) {g : Int}
include h
/-! ### prices that are checked -/
end
end Go.Proofs.YthogdhepjcomjaaGreatDoor
