/-
  What is proved: bettering lists until none can be bettered finds the least list of turns to each turn, for each order that grows with lists.
-/
import Derived.Test.YthogdhepjcomjaaGreatDoorWatG
namespace Go.Proofs.YthogdhepjcomjaaGreatDoor
open Go Go.Proofs.YthogdhepjcomjaaGreatDoor.Wh

/-- A list of different turns of a gate that begins in time and leads to a turn. -/
inductive Way (r : S_api_Roster) (g : Int) : List Int → Int → Prop
  | one {x : Int} : inR r x = true → (tn r x).1 = g → bgI r x ≤ 0 → Way r g [x] x
  | snoc {l : List Int} {x y : Int} : Way r g l x → inR r y = true → foB r x y = true → ¬ y ∈ l → Way r g (l ++ [y]) y
theorem foB_iff {r : S_api_Roster} {x y : Int} : foB r x y = true ↔ x ≠ y ∧ (tn r x).1 = (tn r y).1 ∧ meI r x y ≤ 0 := by
  unfold foB; simp [and_assoc]
namespace Way
variable {r : S_api_Roster} {g : Int}
theorem last {l : List Int} {x : Int} (h : Way r g l x) : ∃ p, l = p ++ [x] := by
  cases h with
  | one _ _ _ => exact ⟨[], rfl⟩
  | snoc _ _ _ _ => exact ⟨_, rfl⟩
theorem ne {l : List Int} {x : Int} (h : Way r g l x) : l ≠ [] := by
  obtain ⟨p, rfl⟩ := h.last
  simp
theorem inRx {l : List Int} {x : Int} (h : Way r g l x) : inR r x = true := by
  cases h with
  | one h _ _ => exact h
  | snoc _ h _ _ => exact h
theorem gate {l : List Int} {x : Int} (h : Way r g l x) : (tn r x).1 = g := by
  induction h with
  | one _ h _ => exact h
  | snoc _ _ hf _ ih => rw [← (foB_iff.1 hf).2.1]; exact ih
theorem all {l : List Int} {x : Int} (h : Way r g l x) : ∀ y ∈ l, inR r y = true ∧ (tn r y).1 = g := by
  induction h with
  | one h1 h2 _ => intro y hy; rw [List.mem_singleton] at hy; subst hy; exact ⟨h1, h2⟩
  | snoc hw hi hf hn ih =>
    intro y hy
    rcases List.mem_append.1 hy with hy | hy
    · exact ih y hy
    · rw [List.mem_singleton] at hy; subst hy; exact ⟨hi, (Way.snoc hw hi hf hn).gate⟩
theorem nodup {l : List Int} {x : Int} (h : Way r g l x) : l.Nodup := by
  induction h with
  | one _ _ _ => simp
  | snoc _ _ _ hn ih =>
    rw [List.nodup_append]
    refine ⟨ih, by simp, fun a ha b hb e => ?_⟩
    rw [List.mem_singleton] at hb
    subst hb; subst e
    exact hn ha
end Way

/-! ### what is kept while lists are bettered -/
structure Kept (r : S_api_Roster) (g : Int) (c : List Int → List Int → Int) (O : Int → List Int) : Prop where
  way : ∀ i, O i ≠ [] → Way r g (O i) i
  pre : ∀ i q k rest, rest ≠ [] → O i = q ++ k :: rest → O k ≠ [] ∧ c (O k) (q ++ [k]) ≤ 0
def put (O : Int → List Int) (j : Int) (l : List Int) : Int → List Int := fun i => if i = j then l else O i
theorem Kept.none {r : S_api_Roster} {g : Int} {c : List Int → List Int → Int} : Kept r g c (fun _ => []) := by
  refine ⟨fun i h => absurd rfl h, fun i q k rest _ e => ?_⟩
  cases q <;> cases e
section
variable {r : S_api_Roster} {g : Int} {c : List Int → List Int → Int} (ho : Ord c) {O : Int → List Int}
include ho
/-- A list that begins, put where it is better. -/
theorem Kept.begin {j : Int} (h : Kept r g c O) (hj : inR r j = true) (hg : (tn r j).1 = g) (hb : bgI r j ≤ 0) (hc : O j = [] ∨ c [j] (O j) ≤ 0) : Kept r g c (put O j [j]) := by
  refine ⟨fun i hi => ?_, fun i q k rest hr e => ?_⟩
  · unfold put at *
    split
    · rename_i q; subst q; exact .one hj hg hb
    · rename_i q; rw [if_neg q] at hi; exact h.way i hi
  · have hO : O i = q ++ k :: rest := by
      unfold put at e
      split at e
      · cases q with
        | nil => cases rest with
          | nil => exact absurd rfl hr
          | cons _ _ => cases e
        | cons a q => cases q <;> cases e
      · exact e
    obtain ⟨h1, h2⟩ := h.pre i q k rest hr hO
    unfold put
    split
    · rename_i q; subst q
      refine ⟨by simp, ?_⟩
      rcases hc with hc | hc
      · exact absurd hc h1
      · exact ho.trans hc h2
    · exact ⟨h1, h2⟩
/-- A list that goes on from another one, put where it is better. -/
theorem Kept.next {i j : Int} (h : Kept r g c O) (hi : O i ≠ []) (hj : inR r j = true) (hf : foB r i j = true) (hn : ¬ j ∈ O i) (hc : O j = [] ∨ c (O i ++ [j]) (O j) ≤ 0) : Kept r g c (put O j (O i ++ [j])) := by
  have hw := h.way i hi
  obtain ⟨p, hp⟩ := hw.last
  have hij : i ≠ j := (foB_iff.1 hf).1
  have key : ∀ k q, O k ≠ [] ∧ c (O k) q ≤ 0 → put O j (O i ++ [j]) k ≠ [] ∧ c (put O j (O i ++ [j]) k) q ≤ 0 := by
    intro k q ⟨h1, h2⟩
    unfold put
    split
    · rename_i e; subst e
      refine ⟨by simp, ?_⟩
      rcases hc with hc | hc
      · exact absurd hc h1
      · exact ho.trans hc h2
    · exact ⟨h1, h2⟩
  refine ⟨fun k hk => ?_, fun k q x rest hr e => ?_⟩
  · unfold put at *
    split
    · rename_i q; subst q; exact .snoc hw hj hf hn
    · rename_i q; rw [if_neg q] at hk; exact h.way k hk
  · refine key _ _ ?_
    unfold put at e
    split at e
    · -- a beginning of the new list
      obtain ⟨s, hs⟩ : ∃ s, rest = s ++ [j] := by
        have hr2 := List.dropLast_concat_getLast hr
        refine ⟨rest.dropLast, ?_⟩
        have e2 : (O i ++ [j]).getLast (by simp) = (q ++ x :: rest).getLast (by simp) := by congr 1
        rw [List.getLast_append_of_ne_nil (by simp) (by simp), List.getLast_append_of_ne_nil (by simp) (by simp), List.getLast_cons hr] at e2
        simp at e2
        rw [e2, hr2]
      subst hs
      have e3 : O i = q ++ x :: s := by
        have : O i ++ [j] = (q ++ x :: s) ++ [j] := by rw [e]; simp
        exact List.append_cancel_right this
      by_cases hs : s = []
      · subst hs
        have e4 : x = i := by
          rw [hp] at e3
          have := List.append_inj_right' e3 rfl
          simpa using this.symm
        subst e4
        refine ⟨hi, ?_⟩
        rw [← e3]
        exact ho.refl _
      · exact h.pre i q x s hs e3
    · exact h.pre k q x rest hr e
/-- What cannot be bettered is least. -/
theorem Kept.least (h : Kept r g c O) (h0 : ∀ j, inR r j = true → (tn r j).1 = g → bgI r j ≤ 0 → O j ≠ [] ∧ c (O j) [j] ≤ 0)
    (h1 : ∀ i j, O i ≠ [] → inR r j = true → foB r i j = true → ¬ j ∈ O i → O j ≠ [] ∧ c (O j) (O i ++ [j]) ≤ 0) {l : List Int} {x : Int} (hw : Way r g l x) : O x ≠ [] ∧ c (O x) l ≤ 0 := by
  induction hw with
  | one a b d => exact h0 _ a b d
  | @snoc l x y hw hi hf hn ih =>
    have ha : c (O x ++ [y]) (l ++ [y]) ≤ 0 := ho.app ih.2
    by_cases hy : y ∈ O x
    · obtain ⟨q, rest, e⟩ := List.append_of_mem hy
      obtain ⟨p, hp⟩ := (h.way x ih.1).last
      have hxy : x ≠ y := (foB_iff.1 hf).1
      have hr : rest ≠ [] := by
        rintro rfl
        rw [hp] at e
        have := List.append_inj_right' e rfl
        simp at this
        exact hxy this
      obtain ⟨h2, h3⟩ := h.pre x q y rest hr e
      refine ⟨h2, ho.trans h3 (ho.trans ?_ ha)⟩
      have : O x ++ [y] = (q ++ [y]) ++ (rest ++ [y]) := by rw [e]; simp
      rw [this]
      exact Int.le_of_lt (ho.pre (by simp))
    · obtain ⟨h2, h3⟩ := h1 x y ih.1 hi hf hy
      exact ⟨h2, ho.trans h3 ha⟩
end

/-! ### how often lists can be bettered -/
/-- All lists of at most k numbers below n. -/
def univ (n : Nat) : Nat → List (List Int)
  | 0 => [[]]
  | k + 1 => univ n k ++ (univ n k).flatMap fun l => (List.range n).map fun x : Nat => l ++ [(x : Int)]
theorem univ_mem {n : Nat} : ∀ {k : Nat} {l : List Int}, l.length ≤ k → (∀ x ∈ l, 0 ≤ x ∧ x < (n : Int)) → l ∈ univ n k
  | 0, l, hl, _ => by
    have : l = [] := List.length_eq_zero_iff.1 (by omega)
    subst this; simp [univ]
  | k + 1, l, hl, h => by
    unfold univ
    by_cases q : l.length ≤ k
    · exact List.mem_append_left _ (univ_mem q h)
    · refine List.mem_append_right _ ?_
      have hne : l ≠ [] := by rintro rfl; simp at q
      have e := List.dropLast_concat_getLast hne
      have hm := h _ (List.getLast_mem hne)
      rw [List.mem_flatMap]
      refine ⟨l.dropLast, univ_mem (by rw [List.length_dropLast]; omega) (fun x hx => h x ((List.dropLast_subset l) hx)), ?_⟩
      rw [List.mem_map]
      refine ⟨(l.getLast hne).toNat, List.mem_range.2 (by omega), ?_⟩
      rw [show (((l.getLast hne).toNat : Nat) : Int) = l.getLast hne by omega]
      exact e
theorem filt_lt {α : Type} {p q : α → Bool} : ∀ {l : List α}, (∀ x ∈ l, p x = true → q x = true) → (∃ x ∈ l, q x = true ∧ p x = false) → (l.filter p).length < (l.filter q).length
  | [], _, ⟨x, hx, _⟩ => by cases hx
  | a :: l, h, hx => by
    have hle : (l.filter p).length ≤ (l.filter q).length := by
      rw [← List.countP_eq_length_filter, ← List.countP_eq_length_filter]
      exact List.countP_mono_left fun x hx => h x (List.mem_cons_of_mem _ hx)
    obtain ⟨x, hx, h1, h2⟩ := hx
    rcases List.mem_cons.1 hx with e | hx
    · subst e
      rw [List.filter_cons, List.filter_cons, if_neg (by rw [h2]; simp), if_pos h1, List.length_cons]
      omega
    · have ih := filt_lt (p := p) (q := q) (l := l) (fun x hx => h x (List.mem_cons_of_mem _ hx)) ⟨x, hx, h1, h2⟩
      rw [List.filter_cons, List.filter_cons]
      cases e : p a with
      | false =>
        simp only [Bool.false_eq_true, if_false]
        split
        · rw [List.length_cons]; omega
        · exact ih
      | true =>
        have := h a (List.mem_cons_self ..) e
        rw [if_pos rfl, if_pos this, List.length_cons, List.length_cons]
        omega
/-- How many lists are better. -/
def rkL (n : Nat) (c : List Int → List Int → Int) (l : List Int) : Nat := if l = [] then (univ n n).length + 1 else ((univ n n).filter fun u => decide (c u l < 0)).length
def rkS (n : Nat) (c : List Int → List Int → Int) (O : Int → List Int) : Nat := ((List.range n).map fun j : Nat => rkL n c (O (j : Int))).sum
theorem sum_le {α : Type} {f g : α → Nat} : ∀ {l : List α}, (∀ x ∈ l, f x ≤ g x) → (l.map f).sum ≤ (l.map g).sum
  | [], _ => by simp
  | a :: l, h => by
    have := sum_le (f := f) (g := g) (l := l) fun x hx => h x (List.mem_cons_of_mem _ hx)
    have := h a (List.mem_cons_self ..)
    simp only [List.map_cons, List.sum_cons]
    omega
theorem sum_lt {α : Type} {f g : α → Nat} : ∀ {l : List α}, (∀ x ∈ l, f x ≤ g x) → (∃ x ∈ l, f x < g x) → (l.map f).sum < (l.map g).sum
  | [], _, ⟨x, hx, _⟩ => by cases hx
  | a :: l, h, ⟨x, hx, hlt⟩ => by
    have h1 := sum_le (f := f) (g := g) (l := l) fun x hx => h x (List.mem_cons_of_mem _ hx)
    have h2 := h a (List.mem_cons_self ..)
    simp only [List.map_cons, List.sum_cons]
    rcases List.mem_cons.1 hx with e | hx
    · subst e; omega
    · have := sum_lt (f := f) (g := g) (l := l) (fun x hx => h x (List.mem_cons_of_mem _ hx)) ⟨x, hx, hlt⟩
      omega
theorem nodup_nat {l : List Int} (h : ∀ x ∈ l, 0 ≤ x) (hn : l.Nodup) : (l.map Int.toNat).Nodup := by
  unfold List.Nodup at *
  rw [List.pairwise_map]
  refine hn.imp_of_mem fun {a b} ha hb e => ?_
  have := h a ha
  have := h b hb
  omega
theorem way_univ {r : S_api_Roster} {g : Int} {l : List Int} {x : Int} (h : Way r g l x) : l ∈ univ r.2.2.2.2.length r.2.2.2.2.length := by
  refine univ_mem ?_ fun y hy => inR_iff.1 (h.all y hy).1
  have h2 : (l.map Int.toNat).Nodup := nodup_nat (fun x hx => (inR_iff.1 (h.all x hx).1).1) h.nodup
  have := nodup_le r.2.2.2.2.length (l.map Int.toNat) h2 fun y hy => by
    obtain ⟨a, ha, rfl⟩ := List.mem_map.1 hy
    have := inR_iff.1 (h.all a ha).1
    omega
  simpa using this
theorem rkL_lt {n : Nat} {c : List Int → List Int → Int} (ho : Ord c) {l l' : List Int} (hl' : l' ≠ []) (hu : l' ∈ univ n n) (h : l = [] ∨ c l' l < 0) : rkL n c l' < rkL n c l := by
  have hle : ((univ n n).filter fun u => decide (c u l' < 0)).length ≤ (univ n n).length := List.length_filter_le _ _
  unfold rkL
  rw [if_neg hl']
  split
  · omega
  · rename_i q
    have h : c l' l < 0 := h.resolve_left q
    refine filt_lt (fun u _ hu => ?_) ⟨l', hu, by simpa using h, ?_⟩
    · rw [decide_eq_true_eq] at *
      have h1 := ho.trans (Int.le_of_lt hu) (Int.le_of_lt h)
      by_cases e : c u l < 0
      · exact e
      · have h0 : c l u ≤ 0 := by
          by_cases q2 : c l u ≤ 0
          · exact q2
          · exact absurd (ho.total q2) e
        have e2 : u = l := ho.anti h1 h0
        subst e2
        exact absurd (Int.le_of_lt h) (ho.strict hu)
    · rw [decide_eq_false_iff_not]
      intro hlt
      exact ho.strict hlt (Int.le_of_lt hlt)
theorem rkS_put {n : Nat} {c : List Int → List Int → Int} (ho : Ord c) {O : Int → List Int} {j : Int} {l : List Int} (hj : 0 ≤ j ∧ j < (n : Int)) (hl : l ≠ []) (hu : l ∈ univ n n) (h : O j = [] ∨ c l (O j) < 0) : rkS n c (put O j l) < rkS n c O := by
  refine sum_lt (fun i _ => ?_) ⟨j.toNat, List.mem_range.2 (by omega), ?_⟩
  · unfold put
    split
    · rename_i e; rw [e]; exact Nat.le_of_lt (rkL_lt ho hl hu h)
    · exact Nat.le_refl _
  · rw [show ((j.toNat : Nat) : Int) = j by omega]
    unfold put
    rw [if_pos rfl]
    exact rkL_lt ho hl hu h
end Go.Proofs.YthogdhepjcomjaaGreatDoor

/-
  What is proved: plans as lists and as ways; what can be reached, and by which ways.
-/
namespace Go.Proofs.YthogdhepjcomjaaGreatDoor
open Go Go.Proofs.YthogdhepjcomjaaGreatDoor.Wh

theorem difB_iff {l : List Int} : difB l = true ↔ l.Nodup := by
  unfold difB
  simp only [List.all_eq_true, List.mem_range, Bool.not_eq_true', List.contains_eq_any_beq, List.any_eq_false, beq_iff_eq]
  rw [List.Nodup, List.pairwise_iff_getElem]
  constructor
  · intro h i j hi hj hij e
    refine h j hj l[i] ?_ ?_
    · refine List.mem_of_getElem? (i := i) ?_
      rw [List.getElem?_take, if_pos hij, List.getElem?_eq_getElem hi]
    · rw [List.getD_eq_getElem?_getD, List.getElem?_eq_getElem hj, e]; rfl
  · intro h j hj x hx e
    obtain ⟨i, hi⟩ := List.mem_iff_getElem?.1 hx
    have hij : i < j := by
      have := (List.getElem?_eq_some_iff.1 hi).1
      rw [List.length_take] at this; omega
    rw [List.getElem?_take, if_pos hij, List.getElem?_eq_getElem (by omega)] at hi
    refine h i j (by omega) hj hij ?_
    rw [List.getD_eq_getElem?_getD, List.getElem?_eq_getElem hj] at e
    simp at hi e
    rw [hi, e]

/-! ### plans as lists -/
def linkB (r : S_api_Roster) : List Int → Bool
  | [] => true
  | [_] => true
  | x :: y :: l => decide (meI r x y ≤ 0) && linkB r (y :: l)
def planB (r : S_api_Roster) (g : Int) (l : List Int) : Bool :=
  !l.isEmpty && (difB l && (l.all (inR r) && (l.all (fun x => (tn r x).1 == g) && (decide (bgI r (l.getD 0 0) ≤ 0) && (linkB r l && decide (enI r (l.getD (l.length - 1) 0) ≤ 0))))))
theorem linkB_app {r : S_api_Roster} {x y : Int} : ∀ {p : List Int}, linkB r (p ++ [x, y]) = (linkB r (p ++ [x]) && decide (meI r x y ≤ 0))
  | [] => by simp [linkB]
  | [a] => by simp [linkB, Bool.and_comm]
  | a :: b :: p => by
    have ih := linkB_app (r := r) (x := x) (y := y) (p := b :: p)
    simp only [List.cons_append, linkB] at *
    rw [ih, Bool.and_assoc]
theorem way_go {r : S_api_Roster} {g : Int} : ∀ {l p : List Int} {x : Int}, Way r g p x → (p ++ l).Nodup → (∀ y ∈ l, inR r y = true ∧ (tn r y).1 = g) → linkB r (x :: l) = true → Way r g (p ++ l) ((x :: l).getLast (by simp))
  | [], p, x, h, _, _, _ => by simpa using h
  | y :: l, p, x, h, hn, ha, hl => by
    simp only [linkB, Bool.and_eq_true, decide_eq_true_eq] at hl
    have hy := ha y (List.mem_cons_self ..)
    rw [List.nodup_append] at hn
    have hyp : ¬ y ∈ p := fun hm => hn.2.2 y hm y (List.mem_cons_self ..) rfl
    obtain ⟨q, hq⟩ := h.last
    have hxy : x ≠ y := by
      intro e
      refine hyp ?_
      rw [hq, e]; simp
    have hw : Way r g (p ++ [y]) y := h.snoc hy.1 (foB_iff.2 ⟨hxy, by rw [h.gate, hy.2], hl.1⟩) hyp
    have := way_go (l := l) hw (by
      rw [List.append_assoc]
      exact List.nodup_append.2 hn) (fun z hz => ha z (List.mem_cons_of_mem _ hz)) hl.2
    rw [List.append_assoc] at this
    simpa using this
theorem Way.link {r : S_api_Roster} {g : Int} {l : List Int} {x : Int} (h : Way r g l x) : linkB r l = true := by
  induction h with
  | one _ _ _ => rfl
  | snoc hw _ hf _ ih =>
    obtain ⟨p, rfl⟩ := hw.last
    rw [List.append_assoc]
    show linkB r (p ++ [_, _]) = true
    rw [linkB_app, ih]
    simpa using (foB_iff.1 hf).2.2
theorem Way.head {r : S_api_Roster} {g : Int} {l : List Int} {x : Int} (h : Way r g l x) : bgI r (l.getD 0 0) ≤ 0 := by
  induction h with
  | one _ _ h => exact h
  | @snoc l x y hw _ _ _ ih =>
    cases l with
    | nil => exact absurd rfl hw.ne
    | cons a l => exact ih
theorem getD_last {l : List Int} (h : l ≠ []) : l.getD (l.length - 1) 0 = l.getLast h := by
  have : 0 < l.length := List.length_pos_iff.2 h
  rw [List.getLast_eq_getElem, List.getD_eq_getElem?_getD, List.getElem?_eq_getElem (by omega)]; rfl
theorem planB_iff {r : S_api_Roster} {g : Int} {l : List Int} : planB r g l = true ↔ ∃ x, Way r g l x ∧ enI r x ≤ 0 := by
  unfold planB
  simp only [Bool.and_eq_true, decide_eq_true_eq, List.all_eq_true, beq_iff_eq, Bool.not_eq_true', List.isEmpty_eq_false_iff, difB_iff]
  constructor
  · rintro ⟨h0, h1, h2, h3, h4, h5, h6⟩
    cases l with
    | nil => exact absurd rfl h0
    | cons a l =>
      have hw : Way r g [a] a := .one (h2 a (List.mem_cons_self ..)) (h3 a (List.mem_cons_self ..)) h4
      have := way_go (l := l) hw h1 (fun y hy => ⟨h2 y (List.mem_cons_of_mem _ hy), h3 y (List.mem_cons_of_mem _ hy)⟩) h5
      refine ⟨_, this, ?_⟩
      rw [← getD_last]; exact h6
  · rintro ⟨x, hw, he⟩
    refine ⟨hw.ne, hw.nodup, fun y hy => (hw.all y hy).1, fun y hy => (hw.all y hy).2, hw.head, hw.link, ?_⟩
    obtain ⟨p, rfl⟩ := hw.last
    rw [getD_last (by simp)]
    simpa using he

/-! ### what can be reached -/
/-- Turns that can be reached without one. -/
inductive Rch (r : S_api_Roster) (g w : Int) : Int → Prop
  | one {x : Int} : inR r x = true → (tn r x).1 = g → bgI r x ≤ 0 → x ≠ w → Rch r g w x
  | step {x y : Int} : Rch r g w x → inR r y = true → foB r x y = true → y ≠ w → Rch r g w y
theorem Way.part {r : S_api_Roster} {g : Int} {l : List Int} {x : Int} (h : Way r g l x) : ∀ y ∈ l, ∃ p, Way r g p y ∧ p <+: l := by
  induction h with
  | one h1 h2 h3 => intro y hy; rw [List.mem_singleton] at hy; subst hy; exact ⟨_, .one h1 h2 h3, List.prefix_rfl⟩
  | snoc hw hi hf hn ih =>
    intro y hy
    rcases List.mem_append.1 hy with hy | hy
    · obtain ⟨p, h1, h2⟩ := ih y hy
      exact ⟨p, h1, h2.trans (List.prefix_append _ _)⟩
    · rw [List.mem_singleton] at hy; subst hy
      exact ⟨_, .snoc hw hi hf hn, List.prefix_rfl⟩
theorem Rch.way {r : S_api_Roster} {g w x : Int} (h : Rch r g w x) : ∃ l, Way r g l x ∧ ¬ w ∈ l := by
  induction h with
  | one h1 h2 h3 h4 => exact ⟨_, .one h1 h2 h3, fun e => h4 (List.mem_singleton.1 e).symm⟩
  | @step x y _ hi hf hw ih =>
    obtain ⟨l, h1, h2⟩ := ih
    by_cases hy : y ∈ l
    · obtain ⟨p, h3, h4⟩ := h1.part y hy
      exact ⟨p, h3, fun e => h2 (h4.subset e)⟩
    · refine ⟨_, .snoc h1 hi hf hy, fun e => ?_⟩
      rcases List.mem_append.1 e with e | e
      · exact h2 e
      · exact hw (List.mem_singleton.1 e).symm
theorem Way.rch {r : S_api_Roster} {g w : Int} {l : List Int} {x : Int} (h : Way r g l x) : ¬ w ∈ l → Rch r g w x := by
  induction h with
  | one h1 h2 h3 => intro hw; exact .one h1 h2 h3 fun e => hw (by rw [e]; simp)
  | snoc hw hi hf hn ih =>
    intro h
    exact .step (ih fun e => h (List.mem_append_left _ e)) hi hf fun e => h (by rw [e]; simp)
theorem Rch.gate {r : S_api_Roster} {g w x : Int} (h : Rch r g w x) : (tn r x).1 = g := by
  obtain ⟨l, h1, _⟩ := h.way
  exact h1.gate
theorem Rch.inRx {r : S_api_Roster} {g w x : Int} (h : Rch r g w x) : inR r x = true := by
  obtain ⟨l, h1, _⟩ := h.way
  exact h1.inRx
end Go.Proofs.YthogdhepjcomjaaGreatDoor

/-
  What is proved: least weights of turns that lead to the end, and the first list of turns of least weight, turn by turn.
-/
namespace Go.Proofs.YthogdhepjcomjaaGreatDoor
open Go Go.Proofs.YthogdhepjcomjaaGreatDoor.Wh

/-- Turns, one behind the other, that lead to the end. -/
inductive Run (r : S_api_Roster) (g : Int) : Int → List Int → Prop
  | one {x : Int} : inR r x = true → (tn r x).1 = g → enI r x ≤ 0 → Run r g x [x]
  | cons {x y : Int} {l : List Int} : inR r x = true → foB r x y = true → Run r g y l → Run r g x (x :: l)
def sumf (w : Int → Int) : List Int → Int
  | [] => 0
  | x :: l => w x + sumf w l
theorem sumf_nn {w : Int → Int} {l : List Int} (h : ∀ x ∈ l, 0 ≤ w x) : 0 ≤ sumf w l := by
  induction l with
  | nil => exact Int.le_refl _
  | cons a l ih =>
    have := h a (List.mem_cons_self ..)
    have := ih fun x hx => h x (List.mem_cons_of_mem _ hx)
    simp only [sumf]; omega
namespace Run
variable {r : S_api_Roster} {g : Int}
theorem head {x : Int} {l : List Int} (h : Run r g x l) : ∃ q, l = x :: q := by
  cases h with
  | one _ _ _ => exact ⟨[], rfl⟩
  | cons _ _ _ => exact ⟨_, rfl⟩
theorem inRx {x : Int} {l : List Int} (h : Run r g x l) : inR r x = true := by
  cases h with
  | one h _ _ => exact h
  | cons h _ _ => exact h
theorem gate {x : Int} {l : List Int} (h : Run r g x l) : (tn r x).1 = g := by
  induction h with
  | one _ h _ => exact h
  | cons _ hf _ ih => rw [(foB_iff.1 hf).2.1]; exact ih
theorem all {x : Int} {l : List Int} (h : Run r g x l) : ∀ y ∈ l, inR r y = true ∧ (tn r y).1 = g := by
  induction h with
  | one h1 h2 _ => intro y hy; rw [List.mem_singleton] at hy; subst hy; exact ⟨h1, h2⟩
  | cons h1 hf hr ih =>
    intro y hy
    rcases List.mem_cons.1 hy with e | hy
    · subst e; exact ⟨h1, (Run.cons h1 hf hr).gate⟩
    · exact ih y hy
theorem part {x : Int} {l : List Int} (h : Run r g x l) : ∀ y ∈ l, ∃ p s, Run r g y s ∧ l = p ++ s := by
  induction h with
  | one h1 h2 h3 => intro y hy; rw [List.mem_singleton] at hy; subst hy; exact ⟨[], _, .one h1 h2 h3, rfl⟩
  | @cons x y l h1 hf hr ih =>
    intro z hz
    rcases List.mem_cons.1 hz with e | hz
    · subst e; exact ⟨[], _, .cons h1 hf hr, rfl⟩
    · obtain ⟨p, s, h2, h3⟩ := ih z hz
      exact ⟨x :: p, s, h2, by rw [h3]; rfl⟩
theorem len {x : Int} {l : List Int} (h : Run r g x l) (hn : l.Nodup) : l.length ≤ r.2.2.2.2.length := by
  have h2 : (l.map Int.toNat).Nodup := nodup_nat (fun x hx => (inR_iff.1 (h.all x hx).1).1) hn
  have := nodup_le r.2.2.2.2.length (l.map Int.toNat) h2 fun y hy => by
    obtain ⟨a, ha, rfl⟩ := List.mem_map.1 hy
    have := inR_iff.1 (h.all a ha).1
    omega
  simpa using this
/-- A run of different turns that begins in time is a plan. -/
theorem way {x : Int} {l : List Int} (h : Run r g x l) (hn : l.Nodup) (hb : bgI r x ≤ 0) : ∃ z, Way r g l z ∧ enI r z ≤ 0 := by
  have key : ∀ {x : Int} {l : List Int}, Run r g x l → ∀ p, Way r g (p ++ [x]) x → (p ++ l).Nodup → ∃ z, Way r g (p ++ l) z ∧ enI r z ≤ 0 := by
    intro x l h
    induction h with
    | one h1 h2 h3 => intro p hp _; exact ⟨_, hp, h3⟩
    | @cons x y l h1 hf hr ih =>
      intro p hp hn
      obtain ⟨q, hq⟩ := hr.head
      have e : p ++ x :: l = (p ++ [x]) ++ l := by simp
      have hy : ¬ y ∈ p ++ [x] := by
        rw [e, List.nodup_append] at hn
        intro hm
        exact hn.2.2 y hm y (by rw [hq]; simp) rfl
      have := ih (p ++ [x]) (hp.snoc hr.inRx hf hy) (by rw [← e]; exact hn)
      rwa [← e] at this
  exact key h [] (.one h.inRx h.gate hb) hn
end Run
/-- A plan is a run from a turn that begins in time. -/
theorem Way.run {r : S_api_Roster} {g : Int} {l : List Int} {z : Int} (h : Way r g l z) (he : enI r z ≤ 0) : ∃ x, Run r g x l ∧ bgI r x ≤ 0 := by
  have key : ∀ {l : List Int} {z : Int}, Way r g l z → ∀ q, Run r g z (z :: q) → ∃ x, Run r g x (l ++ q) ∧ bgI r x ≤ 0 := by
    intro l z h
    induction h with
    | @one x h1 h2 h3 => intro q hq; exact ⟨x, hq, h3⟩
    | @snoc l x y hw hi hf hn ih =>
      intro q hq
      have := ih (y :: q) (.cons hw.inRx hf hq)
      simpa using this
  have := key h [] (.one h.inRx h.gate he)
  simpa using this

/-! ### least weights -/
structure Dist (r : S_api_Roster) (g : Int) (w : Int → Int) (R : Int → Int) : Prop where
  att : ∀ i, inR r i = true → R i < far → ∃ l, Run r g i l ∧ sumf w l = R i
  le : ∀ i l, Run r g i l → R i < far ∧ R i ≤ sumf w l
/-- The first turns of least weight. -/
inductive Gr (r : S_api_Roster) (w R : Int → Int) : Int → List Int → Prop
  | stop {x : Int} : R x - w x = 0 → Gr r w R x [x]
  | go {x y : Int} {l : List Int} : 0 < R x - w x → inR r y = true → foB r x y = true → R y = R x - w x → (∀ k, inR r k = true → foB r x k = true → R k = R x - w x → y ≤ k) → Gr r w R y l → Gr r w R x (x :: l)
theorem Gr.is {r : S_api_Roster} {g : Int} {w R : Int → Int} (hd : Dist r g w R) (hw : ∀ x, inR r x = true → 1 ≤ w x) {x : Int} {l : List Int} (h : Gr r w R x l) :
    inR r x = true → R x < far → Run r g x l ∧ sumf w l = R x ∧ l.Nodup ∧ (∀ z ∈ l, R z ≤ R x) ∧ ∀ l', Run r g x l' → sumf w l' = R x → lexI l l' ≤ 0 := by
  have pos : ∀ {x : Int} {l : List Int}, Run r g x l → 1 ≤ sumf w l := by
    intro x l h
    obtain ⟨q, hq⟩ := h.head
    have h1 := sumf_nn (w := w) (l := q) fun z hz => by have := hw z (h.all z (by rw [hq]; exact List.mem_cons_of_mem _ hz)).1; omega
    have h2 := hw x h.inRx
    rw [hq]; simp only [sumf]; omega
  induction h with
  | @stop x h =>
    intro hx hf
    have only : ∀ l', Run r g x l' → sumf w l' = R x → l' = [x] ∧ enI r x ≤ 0 := by
      intro l' h1 h2
      cases h1 with
      | one a b d => exact ⟨rfl, d⟩
      | cons a b d =>
        have := pos d
        simp only [sumf] at h2
        omega
    obtain ⟨l, h1, h2⟩ := hd.att x hx hf
    obtain ⟨e1, e2⟩ := only l h1 h2
    subst e1
    refine ⟨h1, h2, by simp, fun z hz => by rw [List.mem_singleton.1 hz]; omega, fun l' h3 h4 => ?_⟩
    rw [(only l' h3 h4).1, lexI_refl]
    omega
  | @go x y l h hy hf hR hk hg ih =>
    intro hx hfar
    have hwx := hw x hx
    obtain ⟨h1, h2, h3, h4, h5⟩ := ih hy (by omega)
    refine ⟨.cons hx hf h1, by simp only [sumf]; omega, List.nodup_cons.2 ⟨fun hm => ?_, h3⟩, fun z hz => ?_, fun l' h6 h7 => ?_⟩
    · have := h4 x hm; omega
    · rcases List.mem_cons.1 hz with e | hz
      · rw [e]; omega
      · have := h4 z hz; omega
    · cases h6 with
      | one a b d => simp only [sumf] at h7; omega
      | @cons _ y' l' a b d =>
        simp only [sumf] at h7
        have hle := (hd.le y' l' d).2
        -- no lighter than that
        obtain ⟨l2, h8, h9⟩ := hd.att y' d.inRx (hd.le y' l' d).1
        have h10 := (hd.le x (x :: l2) (.cons hx b h8)).2
        simp only [sumf] at h10
        have e : R y' = R x - w x := by omega
        have hyk := hk y' d.inRx b e
        unfold lexI
        rw [if_neg (by omega), if_neg (by omega)]
        obtain ⟨q, hq⟩ := h1.head
        obtain ⟨q', hq'⟩ := d.head
        by_cases e2 : y = y'
        · subst e2
          exact h5 l' d (by omega)
        · rw [hq, hq']
          unfold lexI
          rw [if_pos (by omega)]
          omega
end Go.Proofs.YthogdhepjcomjaaGreatDoor

/-
  What is proved: the program's ways are the least ones, for each order that grows with lists.
-/
namespace Go.Proofs.YthogdhepjcomjaaGreatDoor
open Go Go.Proofs.YthogdhepjcomjaaGreatDoor.Wh

theorem selI_mem {p : Nat → Bool} {n : Nat} {x : Int} : x ∈ selI p n ↔ 0 ≤ x ∧ x < (n : Int) ∧ p x.toNat = true := by
  unfold selI
  rw [List.mem_map]
  constructor
  · rintro ⟨k, hk, rfl⟩
    rw [List.mem_filter, List.mem_range] at hk
    exact ⟨by omega, by omega, by simpa using hk.2⟩
  · rintro ⟨h1, h2, h3⟩
    exact ⟨x.toNat, List.mem_filter.2 ⟨List.mem_range.2 (by omega), h3⟩, by omega⟩
theorem f90_eq {r : S_api_Roster} {g : Int} {f : Int → Option Bool} (p : Nat → Bool) (hl : r.2.2.2.2.length ≤ 24) (h : ∀ j, j < r.2.2.2.2.length → (tnJ r j).1 = g → f (j : Int) = some (p j)) :
    M.f90 r g f = some (selI (fun j => (tnJ r j).1 == g && p j) r.2.2.2.2.length) := by
  unfold M.f90
  refine bnd (forS_st (fun j => selI (fun j => (tnJ r j).1 == g && p j) j) rfl (by omega) fun j hj => ?_) rfl
  have e1 : idx r.2.2.2.2 (j : Int) = some (tnJ r j) := idx_getD hj
  have hlen := selI_len (fun j => (tnJ r j).1 == g && p j) j
  simp only [e1, Option.bind_eq_bind, Option.bind_some, selI_succ]
  cases q : (tnJ r j).1 == g with
  | false => simp [guardO]
  | true =>
    simp only [guardO, h j hj (by simpa using q), Option.bind_some, Bool.true_and]
    cases p j with
    | false => simp
    | true => simp only [if_true, app_one (show (selI (fun j => (tnJ r j).1 == g && p j) j).length ≤ 4294967295 by omega), Option.bind_some]
/-- The turns of a gate. -/
def gts (r : S_api_Roster) (g : Int) : List Int := selI (fun j => (tnJ r j).1 == g && true) r.2.2.2.2.length
theorem gts_mem {r : S_api_Roster} {g x : Int} : x ∈ gts r g ↔ inR r x = true ∧ (tn r x).1 = g := by
  unfold gts
  rw [selI_mem, inR_iff]
  simp only [Bool.and_true, beq_iff_eq]
  exact ⟨fun h => ⟨⟨h.1, h.2.1⟩, h.2.2⟩, fun h => ⟨h.1.1, h.1.2, h.2⟩⟩
def emb (n : Nat) (O : Int → List Int) : List (NL Int) := (List.range n).map fun j : Nat => ⟨O (j : Int)⟩
theorem emb_len {n : Nat} {O : Int → List Int} : (emb n O).length = n := by simp [emb]
theorem idx_emb {n : Nat} {O : Int → List Int} {x : Int} (h0 : 0 ≤ x) (h1 : x < (n : Int)) : idx (emb n O) x = some ⟨O x⟩ := by
  obtain ⟨k, rfl⟩ : ∃ k : Nat, x = (k : Int) := ⟨x.toNat, by omega⟩
  rw [idx_nat]
  unfold emb
  rw [List.getElem?_map, List.getElem?_range (by omega)]
  rfl
theorem set_emb {n : Nat} {O : Int → List Int} {x : Int} {l : List Int} (h0 : 0 ≤ x) (h1 : x < (n : Int)) : set1 (emb n O) x ⟨l⟩ = some (emb n (put O x l)) := by
  obtain ⟨k, rfl⟩ : ∃ k : Nat, x = (k : Int) := ⟨x.toNat, by omega⟩
  unfold set1
  rw [if_neg (by omega), if_pos (by rw [emb_len]; omega)]
  congr 1
  apply List.ext_getElem?
  intro q
  simp only [Int.toNat_natCast, emb, List.getElem?_set, List.length_map, List.length_range, List.getElem?_map, put]
  by_cases hq : k = q
  · subst hq
    have : k < n := by omega
    simp [this]
  · rw [if_neg hq]
    by_cases hqn : q < n
    · have : ¬ (q : Int) = (k : Int) := by omega
      simp [hqn, this]
    · simp [hqn]
theorem mk_emb {n : Nat} (hn : n ≤ 24) : mk (n : Int) (⟨[]⟩ : NL Int) = some (emb n fun _ => []) := by
  unfold mk emb
  rw [if_pos (by omega)]
  congr 1
  apply List.ext_getElem?
  intro q
  by_cases hq : q < n
  · simp [hq]
  · simp [hq]
/-- Lists that can be compared. -/
def Good (r : S_api_Roster) (l : List Int) : Prop := l.all (inR r) = true ∧ l.length ≤ 4294967295
theorem Way.good {r : S_api_Roster} (h : Vd r) {g : Int} {l : List Int} {x : Int} (hw : Way r g l x) : Good r l ∧ l.length ≤ 24 := by
  have h2 : (l.map Int.toNat).Nodup := nodup_nat (fun x hx => (inR_iff.1 (hw.all x hx).1).1) hw.nodup
  have h3 := nodup_le r.2.2.2.2.length (l.map Int.toNat) h2 fun y hy => by
    obtain ⟨a, ha, rfl⟩ := List.mem_map.1 hy
    have := inR_iff.1 (hw.all a ha).1
    omega
  have h4 := h.len
  rw [List.length_map] at h3
  exact ⟨⟨List.all_eq_true.2 fun y hy => (hw.all y hy).1, by omega⟩, by omega⟩
/-- A comparison of the program and what it computes. -/
structure Cmp (r : S_api_Roster) (c : List Int → List Int → Int) (f : List Int → List Int → Option Int) : Prop where
  ord : Ord c
  eq : ∀ a b, Good r a → Good r b → f a b = some (c a b)
/-- One list is there, and no worse than another one. -/
def Has (c : List Int → List Int → Int) (O : Int → List Int) (x : Int) (l : List Int) : Prop := O x ≠ [] ∧ c (O x) l ≤ 0
instance {c : List Int → List Int → Int} {O : Int → List Int} {x : Int} {l : List Int} : Decidable (Has c O x l) := by unfold Has; infer_instance
theorem Has.put {c : List Int → List Int → Int} (ho : Ord c) {O : Int → List Int} {x j : Int} {l l' : List Int} (h : Has c O x l) (hl : l' ≠ []) (hb : ¬ Has c O j l') : Has c (put O j l') x l := by
  unfold Has Go.Proofs.YthogdhepjcomjaaGreatDoor.put at *
  split
  · rename_i e; subst e
    refine ⟨hl, ho.trans (Int.le_of_lt (ho.total ?_)) h.2⟩
    exact fun q => hb ⟨h.1, q⟩
  · exact h
theorem Has.got {c : List Int → List Int → Int} (ho : Ord c) {O : Int → List Int} {j : Int} {l : List Int} (hl : l ≠ []) : Has c (Go.Proofs.YthogdhepjcomjaaGreatDoor.put O j l) j l := by
  unfold Has Go.Proofs.YthogdhepjcomjaaGreatDoor.put
  rw [if_pos rfl]
  exact ⟨hl, ho.refl _⟩
theorem Has.not {c : List Int → List Int → Int} (ho : Ord c) {O : Int → List Int} {j : Int} {l : List Int} (h : ¬ Has c O j l) : O j = [] ∨ c l (O j) < 0 := by
  by_cases e : O j = []
  · exact .inl e
  · exact .inr (ho.total fun q => h ⟨e, q⟩)
section
variable {r : S_api_Roster} (h : Vd r) {g : Int} {c : List Int → List Int → Int} {f : List Int → List Int → Option Int} (hc : Cmp r c f)
include h hc
theorem f144_eq {O : Int → List Int} (hk : Kept r g c O) {j : Int} {l : List Int} (hj : inR r j = true) (hl : l ≠ []) (hg : Good r l) :
    M.f144 j l (emb r.2.2.2.2.length O) f = some (if Has c O j l then (false, emb r.2.2.2.2.length O) else (true, emb r.2.2.2.2.length (put O j l))) := by
  have hj' := inR_iff.1 hj
  have e1 : nlO l = some ⟨l⟩ := by cases l with
    | nil => exact absurd rfl hl
    | cons _ _ => rfl
  unfold M.f144 Has
  simp only [idx_emb hj'.1 hj'.2, Option.bind_eq_bind, Option.bind_some, e1, set_emb hj'.1 hj'.2]
  by_cases e : O j = []
  · simp [e, guardO]
  · have e2 : (O j).isEmpty = false := by simpa using e
    simp only [e2, Bool.not_false, guardO, Option.bind_some, hc.eq _ _ ((hk.way j e).good h).1 hg, Bool.true_and]
    by_cases q : c (O j) l ≤ 0
    · simp [q, e]
    · simp [q]
end
end Go.Proofs.YthogdhepjcomjaaGreatDoor

/-
  What is proved: the model of the program's ways ends, and returns the least list of turns to each turn; the least plan.
-/
namespace Go.Proofs.YthogdhepjcomjaaGreatDoor
open Go Go.Proofs.YthogdhepjcomjaaGreatDoor.Wh

/-- What ways return. -/
structure Least (r : S_api_Roster) (g : Int) (c : List Int → List Int → Int) (O : Int → List Int) : Prop where
  way : ∀ i, O i ≠ [] → Way r g (O i) i
  le : ∀ l x, Way r g l x → Has c O x l
/-- Rounds that are enough. -/
def wayB (n : Nat) : Nat := n * ((univ n n).length + 1) + 3
theorem rkL_le {n : Nat} {c : List Int → List Int → Int} {l : List Int} : rkL n c l ≤ (univ n n).length + 1 := by
  unfold rkL
  split
  · exact Nat.le_refl _
  · exact Nat.le_trans (List.length_filter_le _ _) (by omega)
theorem rkS_le {n : Nat} {c : List Int → List Int → Int} {O : Int → List Int} : rkS n c O ≤ n * ((univ n n).length + 1) := by
  have key : ∀ l : List Nat, (l.map fun j : Nat => rkL n c (O (j : Int))).sum ≤ l.length * ((univ n n).length + 1) := by
    intro l
    induction l with
    | nil => simp
    | cons a l ih =>
      have := rkL_le (n := n) (c := c) (l := O (a : Int))
      rw [List.map_cons, List.sum_cons, List.length_cons, Nat.add_mul]
      omega
  have := key (List.range n)
  rwa [List.length_range] at this
/-- What is no better than what is there. -/
def FixAt (r : S_api_Roster) (c : List Int → List Int → Int) (O : Int → List Int) (i j : Int) : Prop := O i ≠ [] → foB r i j = true → ¬ j ∈ O i → Has c O j (O i ++ [j])
def Begun (r : S_api_Roster) (g : Int) (c : List Int → List Int → Int) (O : Int → List Int) : Prop := ∀ j, inR r j = true → (tn r j).1 = g → bgI r j ≤ 0 → Has c O j [j]
theorem bndE {α β : Type} {P : α → Prop} {Q : Option β → Prop} {x : Option α} {k : α → Option β} (h : ∃ y, x = some y ∧ P y) (hk : ∀ y, P y → Q (k y)) : Q (x.bind k) := by
  obtain ⟨y, h1, h2⟩ := h
  rw [h1]
  exact hk y h2
theorem bndX {α β : Type} {P : α → Prop} {R : β → Prop} {x : Option α} {k : α → Option β} (h : ∃ y, x = some y ∧ P y) (hk : ∀ y, P y → ∃ o, k y = some o ∧ R o) : ∃ o, x.bind k = some o ∧ R o := by
  obtain ⟨y, h1, h2⟩ := h
  rw [h1]
  exact hk y h2
theorem mem_at {l : List Int} {x : Int} (h : x ∈ l) : ∃ k, k < l.length ∧ l.getD k 0 = x := by
  obtain ⟨k, hk⟩ := List.mem_iff_getElem?.1 h
  exact ⟨k, (List.getElem?_eq_some_iff.1 hk).1, by rw [List.getD_eq_getElem?_getD, hk]; rfl⟩
theorem at_mem {l : List Int} {k : Nat} (h : k < l.length) : l.getD k 0 ∈ l := by
  rw [List.getD_eq_getElem?_getD, List.getElem?_eq_getElem h]
  exact List.getElem_mem h
section
variable {r : S_api_Roster} (h : Vd r) {g : Int} {c : List Int → List Int → Int} {f : List Int → List Int → Option Int} (hc : Cmp r c f)
include h hc
theorem f81_so : ∀ fuel, wayB r.2.2.2.2.length < fuel → ∃ O, M.f81 fuel r g f = some (emb r.2.2.2.2.length O) ∧ Least r g c O := by
  intro fuel hfuel
  have h24 := h.len
  have ho := hc.ord
  have hlen : (gts r g).length ≤ 24 := Nat.le_trans (selI_len _ _) h24
  have hmem : ∀ k, k < (gts r g).length → inR r ((gts r g).getD k 0) = true ∧ (tn r ((gts r g).getD k 0)).1 = g := fun k hk => gts_mem.1 (at_mem hk)
  have e1 : M.f90 r g (fun x0 => M.f145 x0) = some (gts r g) := f90_eq (fun _ => true) h24 fun j _ _ => rfl
  have g1 : ∀ x, inR r x = true → Good r [x] := fun x hx => ⟨by simp [hx], by simp⟩
  unfold M.f81
  simp only [mk_emb h24, e1, Option.bind_eq_bind, Option.bind_some]
  refine bndE (Q := fun z => ∃ O, z = some (emb r.2.2.2.2.length O) ∧ Least r g c O) (forS_inv (N := (gts r g).length) (fun k s => ∃ O, s = emb r.2.2.2.2.length O ∧ Kept r g c O ∧ ∀ k', k' < k → bgI r ((gts r g).getD k' 0) ≤ 0 → Has c O ((gts r g).getD k' 0) [(gts r g).getD k' 0]) (by omega) ⟨_, rfl, Kept.none, fun k' hk' => absurd hk' (by omega)⟩ ?_) ?_
  · rintro k s hk ⟨O, rfl, hO, hB⟩
    obtain ⟨hx, hgx⟩ := hmem k hk
    simp only [idx_getD (d := (0 : Int)) hk, f92_eq h hx, M.f93, Option.bind_some]
    generalize hxe : (gts r g).getD k 0 = x at *
    by_cases q : bgI r x ≤ 0
    · simp only [decide_eq_true q, if_true, f144_eq h hc hO hx (show [x] ≠ [] by simp) (g1 x hx), Option.bind_some]
      by_cases q2 : Has c O x [x]
      · rw [if_pos q2]
        refine ⟨_, rfl, O, rfl, hO, fun k' hk' hb' => ?_⟩
        by_cases e : k' = k
        · subst e; rw [hxe]; exact q2
        · exact hB k' (by omega) hb'
      · rw [if_neg q2]
        refine ⟨_, rfl, _, rfl, hO.begin ho hx hgx q ((Has.not ho q2).imp id Int.le_of_lt), fun k' hk' hb' => ?_⟩
        by_cases e : k' = k
        · subst e; rw [hxe]; exact Has.got ho (by simp)
        · exact (hB k' (by omega) hb').put ho (by simp) q2
    · simp only [decide_eq_false q, Bool.false_eq_true, if_false, Option.bind_some]
      refine ⟨_, rfl, O, rfl, hO, fun k' hk' hb' => ?_⟩
      by_cases e : k' = k
      · subst e; rw [hxe] at hb'; exact absurd hb' q
      · exact hB k' (by omega) hb'
  rintro s1 ⟨O1, rfl, hO1, hB1⟩
  have hBe : Begun r g c O1 := fun j hj hgj hbj => by
    obtain ⟨k, hk, e⟩ := mem_at (gts_mem.2 ⟨hj, hgj⟩)
    have := hB1 k hk (by rw [e]; exact hbj)
    rwa [e] at this
  refine bndE (Q := fun z => ∃ O, z = some (emb r.2.2.2.2.length O) ∧ Least r g c O) (loopM_inv (fun m (s : Bool × List (NL Int)) => ∃ O, s.2 = emb r.2.2.2.2.length O ∧ Kept r g c O ∧ Begun r g c O ∧ m = (if s.1 = true then rkS r.2.2.2.2.length c O + 1 else 0) ∧ (s.1 = false → ∀ i ∈ gts r g, ∀ j ∈ gts r g, FixAt r c O i j)) (fun z => ∃ O, z = emb r.2.2.2.2.length O ∧ Least r g c O) fuel (rkS r.2.2.2.2.length c O1 + 1) _ ?_ ⟨O1, rfl, hO1, hBe, by simp, by simp⟩ ?_) ?_
  · have := rkS_le (n := r.2.2.2.2.length) (c := c) (O := O1)
    unfold wayB at hfuel
    omega
  · rintro m ⟨ch, s⟩ ⟨O, hs, hO, hB, hm, hF⟩
    simp only at hs hm hF
    subst hs
    cases ch with
    | false =>
      simp only [Bool.false_eq_true, if_false]
      refine ⟨_, rfl, O, rfl, hO.way, fun l x hw => ?_⟩
      refine hO.least ho hB (fun i j hi hj hf hn => ?_) hw
      have hwi := hO.way i hi
      exact hF rfl i (gts_mem.2 ⟨hwi.inRx, hwi.gate⟩) j (gts_mem.2 ⟨hj, by rw [← (foB_iff.1 hf).2.1]; exact hwi.gate⟩) hi hf hn
    | true =>
      simp only [if_true] at hm ⊢
      refine bndX (forS_inv (N := (gts r g).length) (fun k (s : Bool × List (NL Int)) => ∃ O', s.2 = emb r.2.2.2.2.length O' ∧ Kept r g c O' ∧ Begun r g c O' ∧ (s.1 = true → rkS r.2.2.2.2.length c O' < rkS r.2.2.2.2.length c O) ∧ (s.1 = false → O' = O ∧ ∀ k', k' < k → ∀ j ∈ gts r g, FixAt r c O ((gts r g).getD k' 0) j)) (by omega) ⟨O, rfl, hO, hB, by simp, fun _ => ⟨rfl, fun k' hk' => absurd hk' (by omega)⟩⟩ ?_) ?_
      · rintro k ⟨ch, s⟩ hk ⟨O', hs, hO', hB', hc1, hc2⟩
        simp only at hs hc1 hc2
        subst hs
        obtain ⟨hx, hgx⟩ := hmem k hk
        simp only [idx_getD (d := (0 : Int)) hk, Option.bind_some]
        generalize hxe : (gts r g).getD k 0 = x at *
        have hx' := inR_iff.1 hx
        refine bndX (forS_inv (N := (gts r g).length) (s := (ch, emb r.2.2.2.2.length O')) (fun k2 (s : Bool × List (NL Int)) => ∃ O', s.2 = emb r.2.2.2.2.length O' ∧ Kept r g c O' ∧ Begun r g c O' ∧ (s.1 = true → rkS r.2.2.2.2.length c O' < rkS r.2.2.2.2.length c O) ∧ (s.1 = false → O' = O ∧ (∀ k', k' < k → ∀ j ∈ gts r g, FixAt r c O ((gts r g).getD k' 0) j) ∧ ∀ k', k' < k2 → FixAt r c O x ((gts r g).getD k' 0))) (by omega) ⟨O', rfl, hO', hB', hc1, fun (q : ch = false) => ⟨(hc2 q).1, (hc2 q).2, fun k' hk' => absurd hk' (by omega)⟩⟩ ?_) ?_
        · clear hc1 hc2 hO' hB' O' ch
          rintro k2 ⟨ch, s⟩ hk2 ⟨O', hs, hO', hB', hc1, hc2⟩
          simp only at hs hc1 hc2
          subst hs
          obtain ⟨hy, hgy⟩ := hmem k2 hk2
          simp only [idx_getD (d := (0 : Int)) hk2, idx_emb hx'.1 hx'.2, Option.bind_some]
          generalize hye : (gts r g).getD k2 0 = y at *
          have hy' := inR_iff.1 hy
          have same : (O' = O → FixAt r c O x y) → ∃ O'', emb r.2.2.2.2.length O' = emb r.2.2.2.2.length O'' ∧ Kept r g c O'' ∧ Begun r g c O'' ∧ (ch = true → rkS r.2.2.2.2.length c O'' < rkS r.2.2.2.2.length c O) ∧ (ch = false → O'' = O ∧ (∀ k', k' < k → ∀ j ∈ gts r g, FixAt r c O ((gts r g).getD k' 0) j) ∧ ∀ k', k' < k2 + 1 → FixAt r c O x ((gts r g).getD k' 0)) := fun hf => by
            refine ⟨O', rfl, hO', hB', hc1, fun q => ⟨(hc2 q).1, (hc2 q).2.1, fun k' hk' => ?_⟩⟩
            by_cases e : k' = k2
            · subst e; rw [hye]; exact hf (hc2 q).1
            · exact (hc2 q).2.2 k' (by omega)
          by_cases e : O' x = []
          · simp only [e, List.isEmpty_nil, Bool.not_true, Bool.false_and, guardO, Option.bind_some, Bool.false_eq_true, if_false]
            exact ⟨_, rfl, same fun q => by subst q; exact fun q => absurd e q⟩
          have e2 : (O' x).isEmpty = false := by simpa using e
          have hw := hO'.way x e
          have hgd := hw.good h
          simp only [e2, Bool.not_false, guardO, Bool.true_and, Option.bind_some, f95_eq h hx hy]
          cases hf : foB r x y with
          | false =>
            simp only [Bool.false_and, Option.bind_some, Bool.false_eq_true, if_false]
            exact ⟨_, rfl, same fun q _ q2 => by rw [hf] at q2; cases q2⟩
          | true =>
            simp only [Bool.true_and, f44_eq (show (O' x).length ≤ 4294967296 by omega), Option.bind_some]
            by_cases hmy : y ∈ O' x
            · have e3 : (O' x).contains y = true := by simpa using hmy
              simp only [e3, Bool.not_true, Bool.false_and, Option.bind_some, Bool.false_eq_true, if_false]
              exact ⟨_, rfl, same fun q _ _ q2 => by subst q; exact absurd hmy q2⟩
            · have e3 : (O' x).contains y = false := by simpa using hmy
              have e4 : fullB (O' x) ((O' x).length : Int) ((O' x).length : Int) = some (O' x) := by unfold fullB; rw [if_pos ⟨rfl, rfl⟩]
              have e5 : appF (O' x) [y] = some (O' x ++ [y]) := by unfold appF; rw [if_neg (by simp)]; exact app_one (by omega)
              have hg2 : Good r (O' x ++ [y]) := ⟨by rw [List.all_append, hgd.1.1]; simp [hy], by rw [List.length_append]; simp; omega⟩
              simp only [e3, Bool.not_false, Option.bind_some, if_true, Bool.true_and, e4, e5, f144_eq h hc hO' hy (show O' x ++ [y] ≠ [] by simp) hg2]
              by_cases q : Has c O' y (O' x ++ [y])
              · simp only [if_pos q, Bool.false_eq_true, if_false, Option.bind_some]
                exact ⟨_, rfl, same fun q2 _ _ _ => by subst q2; exact q⟩
              · simp only [if_neg q, if_true, Option.bind_some]
                have hn := Has.not ho q
                have hK := hO'.next ho e hy hf hmy (hn.imp id Int.le_of_lt)
                refine ⟨_, rfl, _, rfl, hK, fun j a b d => (hB' j a b d).put ho (by simp) q, fun _ => ?_, fun q => by cases q⟩
                have h1 := rkS_put (n := r.2.2.2.2.length) ho hy' (show O' x ++ [y] ≠ [] by simp) (way_univ (Way.snoc hw hy hf hmy)) hn
                cases ch with
                | true => have := hc1 rfl; omega
                | false => rw [(hc2 rfl).1] at h1 ⊢; exact h1
        · rintro ⟨ch2, s2⟩ ⟨O2, hs2, hK2, hB2, h1, h2⟩
          simp only at hs2 h1 h2
          subst hs2
          refine ⟨_, rfl, O2, rfl, hK2, hB2, h1, fun q => ⟨(h2 q).1, fun k' hk' j hj => ?_⟩⟩
          by_cases e : k' = k
          · subst e
            rw [hxe]
            obtain ⟨k3, hk3, e3⟩ := mem_at hj
            have := (h2 q).2.2 k3 hk3
            rwa [e3] at this
          · exact (h2 q).2.1 k' (by omega) j hj
      · rintro ⟨ch2, s2⟩ ⟨O2, hs2, hK2, hB2, h1, h2⟩
        simp only at hs2 h1 h2
        subst hs2
        refine ⟨_, rfl, if ch2 = true then rkS r.2.2.2.2.length c O2 + 1 else 0, ?_, O2, rfl, hK2, hB2, rfl, fun q i hi j hj => ?_⟩
        · cases ch2 with
          | true => have := h1 rfl; simp only [if_true]; omega
          | false => simp only [Bool.false_eq_true, if_false]; omega
        · simp only at q
          obtain ⟨e, h3⟩ := h2 q
          subst e
          obtain ⟨k, hk, e⟩ := mem_at hi
          have := h3 k hk j hj
          rwa [e] at this
  · rintro z ⟨O, rfl, hL⟩
    exact ⟨O, rfl, hL⟩
end
end Go.Proofs.YthogdhepjcomjaaGreatDoor

/-
  What is proved: the program's plan is the least one; the comparisons of the program; plans that are checked.
-/
namespace Go.Proofs.YthogdhepjcomjaaGreatDoor
open Go Go.Proofs.YthogdhepjcomjaaGreatDoor.Wh

/-- The least plan; none where there is none. -/
def IsBest (r : S_api_Roster) (g : Int) (c : List Int → List Int → Int) (l : List Int) : Prop :=
  (l = [] ∧ ∀ l' z, Way r g l' z → ¬ enI r z ≤ 0) ∨ (∃ z, Way r g l z ∧ enI r z ≤ 0 ∧ ∀ l' z', Way r g l' z' → enI r z' ≤ 0 → c l l' ≤ 0)
theorem IsBest.uniq {r : S_api_Roster} {g : Int} {c : List Int → List Int → Int} (ho : Ord c) {l l' : List Int} (h : IsBest r g c l) (h' : IsBest r g c l') : l = l' := by
  rcases h with ⟨rfl, h⟩ | ⟨z, h1, h2, h3⟩
  · rcases h' with ⟨rfl, _⟩ | ⟨z', k1, k2, _⟩
    · rfl
    · exact absurd k2 (h _ _ k1)
  · rcases h' with ⟨rfl, h⟩ | ⟨z', k1, k2, k3⟩
    · exact absurd h2 (h _ _ h1)
    · exact ho.anti (h3 _ _ k1 k2) (k3 _ _ h1 h2)
theorem IsBest.plan {r : S_api_Roster} {g : Int} {c : List Int → List Int → Int} {l : List Int} (h : IsBest r g c l) : (l ≠ [] ↔ ∃ l', planB r g l' = true) ∧ (l ≠ [] → planB r g l = true) := by
  rcases h with ⟨rfl, h⟩ | ⟨z, h1, h2, h3⟩
  · refine ⟨⟨fun q => absurd rfl q, fun ⟨l', hl'⟩ => ?_⟩, fun q => absurd rfl q⟩
    obtain ⟨z, k1, k2⟩ := planB_iff.1 hl'
    exact absurd k2 (h _ _ k1)
  · exact ⟨⟨fun _ => ⟨l, planB_iff.2 ⟨z, h1, h2⟩⟩, fun _ => h1.ne⟩, fun _ => planB_iff.2 ⟨z, h1, h2⟩⟩
theorem IsBest.le {r : S_api_Roster} {g : Int} {c : List Int → List Int → Int} {l l' : List Int} (h : IsBest r g c l) (hp : planB r g l' = true) : c l l' ≤ 0 := by
  obtain ⟨z, k1, k2⟩ := planB_iff.1 hp
  rcases h with ⟨rfl, h⟩ | ⟨z', h1, h2, h3⟩
  · exact absurd k2 (h _ _ k1)
  · exact h3 _ _ k1 k2
section
variable {r : S_api_Roster} (h : Vd r) {g : Int}
include h
theorem f79_so {c : List Int → List Int → Int} {f : List Int → List Int → Option Int} (hc : Cmp r c f) : ∀ fuel, wayB r.2.2.2.2.length < fuel → ∃ l, M.f79 fuel r g f = some (l, !l.isEmpty) ∧ IsBest r g c l := by
  intro fuel hfuel
  have h24 := h.len
  obtain ⟨O, e1, hO⟩ := f81_so h (g := g) hc fuel hfuel
  unfold M.f79
  simp only [e1, Option.bind_eq_bind, Option.bind_some, emb_len]
  have key : ∃ s, forS 0 (r.2.2.2.2.length : Int) (⟨[]⟩ : NL Int) _ = some s ∧ _ := forS_inv (N := r.2.2.2.2.length) (s := (⟨[]⟩ : NL Int))
      (f := fun i_3 s_5 => (idx (emb r.2.2.2.2.length O) i_3).bind fun v_9 => (guardO (!v_9.l.isEmpty) (M.f102 r i_3)).bind fun v_11 => (guardO (!v_9.l.isEmpty) (M.f93 v_11)).bind fun v_13 => (guardO (((!v_9.l.isEmpty) && v_13) && (!(s_5.l.isEmpty))) (f v_9.l s_5.l)).bind fun v_15 =>
        (if (((!v_9.l.isEmpty) && v_13) && ((s_5.l.isEmpty) || (decide (v_15 < 0)))) = true then some v_9 else some s_5).bind fun y_18 => some y_18)
      (fun k s => (s.l = [] ∧ ∀ j : Nat, j < k → O (j : Int) ≠ [] → ¬ enI r (j : Int) ≤ 0) ∨ ∃ z, Way r g s.l z ∧ enI r z ≤ 0 ∧ ∀ j : Nat, j < k → O (j : Int) ≠ [] → enI r (j : Int) ≤ 0 → c s.l (O (j : Int)) ≤ 0) (by omega) (.inl ⟨rfl, fun j hj => absurd hj (by omega)⟩) ?_
  · obtain ⟨⟨s⟩, hs, hI⟩ := key
    rw [hs]
    refine ⟨s, rfl, ?_⟩
    have hx : ∀ l' z', Way r g l' z' → ∃ j : Nat, j < r.2.2.2.2.length ∧ z' = (j : Int) := fun l' z' hw => by
      have := inR_iff.1 hw.inRx
      exact ⟨z'.toNat, by omega, by omega⟩
    rcases hI with ⟨h1, h2⟩ | ⟨z, h1, h2, h3⟩
    · refine .inl ⟨h1, fun l' z' hw => ?_⟩
      obtain ⟨j, hj, rfl⟩ := hx l' z' hw
      exact h2 j hj (hO.le _ _ hw).1
    · refine .inr ⟨z, h1, h2, fun l' z' hw he => ?_⟩
      obtain ⟨j, hj, rfl⟩ := hx l' z' hw
      exact hc.ord.trans (h3 j hj (hO.le _ _ hw).1 he) (hO.le _ _ hw).2
  · rintro k ⟨s⟩ hk hI
    have hx : inR r (k : Int) = true := inR_iff.2 ⟨by omega, by omega⟩
    simp only [idx_emb (show (0 : Int) ≤ (k : Int) by omega) (show (k : Int) < (r.2.2.2.2.length : Int) by omega), Option.bind_some]
    by_cases e : O (k : Int) = []
    · simp only [e, List.isEmpty_nil, Bool.not_true, Bool.false_and, guardO, Option.bind_some, Bool.false_eq_true, if_false]
      refine ⟨_, rfl, hI.imp (fun ⟨h1, h2⟩ => ⟨h1, fun j hj hne => ?_⟩) fun ⟨z, h1, h2, h3⟩ => ⟨z, h1, h2, fun j hj hne => ?_⟩⟩
      · by_cases q : j = k
        · subst q; exact absurd e hne
        · exact h2 j (by omega) hne
      · by_cases q : j = k
        · subst q; exact absurd e hne
        · exact h3 j (by omega) hne
    · have e2 : (O (k : Int)).isEmpty = false := by simpa using e
      have hw := hO.way _ e
      simp only [e2, Bool.not_false, guardO, f102_eq h hx, M.f93, Option.bind_some, Bool.true_and]
      by_cases he : enI r (k : Int) ≤ 0
      · simp only [decide_eq_true he, Bool.true_and]
        rcases hI with ⟨h1, h2⟩ | ⟨z, h1, h2, h3⟩
        · simp only at h1
          subst h1
          simp only [List.isEmpty_nil, Bool.not_true, Option.bind_some, Bool.true_or, if_true]
          refine ⟨_, rfl, .inr ⟨_, hw, he, fun j hj hne he' => ?_⟩⟩
          by_cases q : j = k
          · subst q; exact hc.ord.refl _
          · exact absurd he' (h2 j (by omega) hne)
        · have e3 : s.isEmpty = false := by simpa using h1.ne
          simp only [e3, Bool.not_false, hc.eq _ _ (hw.good h).1 (h1.good h).1, Option.bind_some, Bool.false_or]
          by_cases q2 : c (O (k : Int)) s < 0
          · simp only [decide_eq_true q2, if_true, Option.bind_some]
            refine ⟨_, rfl, .inr ⟨_, hw, he, fun j hj hne he' => ?_⟩⟩
            by_cases q : j = k
            · subst q; exact hc.ord.refl _
            · exact hc.ord.trans (Int.le_of_lt q2) (h3 j (by omega) hne he')
          · simp only [decide_eq_false q2, Bool.false_eq_true, if_false, Option.bind_some]
            refine ⟨_, rfl, .inr ⟨z, h1, h2, fun j hj hne he' => ?_⟩⟩
            by_cases q : j = k
            · subst q
              by_cases q3 : c s (O (j : Int)) ≤ 0
              · exact q3
              · exact absurd (hc.ord.total q3) q2
            · exact h3 j (by omega) hne he'
      · simp only [decide_eq_false he, Bool.false_and, Option.bind_some, Bool.false_eq_true, if_false]
        refine ⟨_, rfl, hI.imp (fun ⟨h1, h2⟩ => ⟨h1, fun j hj hne => ?_⟩) fun ⟨z, h1, h2, h3⟩ => ⟨z, h1, h2, fun j hj hne he' => ?_⟩⟩
        · by_cases q : j = k
          · subst q; exact he
          · exact h2 j (by omega) hne
        · by_cases q : j = k
          · subst q; exact absurd he' he
          · exact h3 j (by omega) hne he'
/-- The cheapest; the fewest. -/
def cB (r : S_api_Roster) : List Int → List Int → Int := cc (csum r) lenI
theorem by_cmp : Cmp r (cB r) (fun x0 x1 => M.f140 x0 x1 r) := ⟨by_ord h, fun a b ha hb => f140_eq h (by have := ha.2; omega) (by have := hb.2; omega) ha.1 hb.1⟩
end
end Go.Proofs.YthogdhepjcomjaaGreatDoor

/-
  What is proved: the program's visit marks what can be reached; which gates there are; what is late.
-/
namespace Go.Proofs.YthogdhepjcomjaaGreatDoor
open Go Go.Proofs.YthogdhepjcomjaaGreatDoor.Wh

theorem mget_mset (m : List (Int × Bool)) (i j : Int) (v : Bool) : mget (mset m i v) j = if j = i then v else mget m j := by
  induction m with
  | nil => simp [mset, mget]
  | cons a m ih =>
    obtain ⟨k, u⟩ := a
    unfold mset
    by_cases q : i = k
    · subst q
      rw [if_pos rfl]
      unfold mget
      by_cases q2 : j = i
      · rw [if_pos q2, if_pos q2]
      · rw [if_neg q2, if_neg q2, if_neg q2]
    · rw [if_neg q]
      unfold mget
      rw [ih]
      by_cases q2 : j = k
      · rw [if_pos q2, if_pos q2, if_neg (by rw [q2]; exact fun e => q e.symm)]
      · rw [if_neg q2, if_neg q2]
/-- What a gate's question is answered with ahead of all others. -/
def gateE (r : S_api_Roster) (g : Int) : Int := if vldB r = true then (if 0 ≤ g ∧ g < r.1 then 0 else 1) else 70
theorem f73_eq {r : S_api_Roster} {g : Int} : M.f73 r g = some (gateE r g) := by
  unfold M.f73 gateE
  rw [f47_eq]
  simp only [Option.bind_eq_bind, Option.bind_some]
  cases hv : vldB r with
  | false => rfl
  | true =>
    have h : Vd r := ⟨hv⟩
    have := hdB_iff.1 h.hd
    simp only [if_true, bne_self_eq_false, Bool.false_eq_true, if_false, f99_eq, Option.bind_some, wr_id (show -9223372036854775808 ≤ r.1 - 1 by omega) (by omega)]
    by_cases q : 0 ≤ g ∧ g < r.1
    · rw [if_pos q]
      have : (decide (0 ≤ g) && decide (g ≤ r.1 - 1)) = true := by simp; omega
      rw [this]; rfl
    · rw [if_neg q]
      have : (decide (0 ≤ g) && decide (g ≤ r.1 - 1)) = false := by
        cases e : (decide (0 ≤ g) && decide (g ≤ r.1 - 1)) with
        | false => rfl
        | true => simp at e; omega
      rw [this]; rfl
theorem gateE_zero {r : S_api_Roster} {g : Int} (h : gateE r g = 0) : Vd r ∧ 0 ≤ g ∧ g < r.1 := by
  unfold gateE at h
  split at h
  · rename_i hv
    split at h
    · rename_i hg; exact ⟨⟨hv⟩, hg.1, hg.2⟩
    · cases h
  · cases h
theorem gateE_of {r : S_api_Roster} {g : Int} (h : Vd r) (h0 : 0 ≤ g) (h1 : g < r.1) : gateE r g = 0 := by
  unfold gateE
  rw [if_pos h.h, if_pos ⟨h0, h1⟩]

/-! ### visits -/
/-- How many turns are not marked. -/
def unm (n : Nat) (m : List (Int × Bool)) : Nat := ((List.range n).filter fun j : Nat => !mget m (j : Int)).length
theorem unm_le {n : Nat} {m m' : List (Int × Bool)} (h : ∀ y, mget m y = true → mget m' y = true) : unm n m' ≤ unm n m := by
  unfold unm
  rw [← List.countP_eq_length_filter, ← List.countP_eq_length_filter]
  refine List.countP_mono_left fun j _ hj => ?_
  cases e : mget m (j : Int) with
  | false => rfl
  | true => rw [h _ e] at hj; exact hj
theorem unm_lt {n : Nat} {m : List (Int × Bool)} {x : Int} (h0 : 0 ≤ x) (h1 : x < (n : Int)) (h : mget m x = false) : unm n (mset m x true) < unm n m := by
  refine filt_lt (fun j _ hj => ?_) ⟨x.toNat, List.mem_range.2 (by omega), ?_, ?_⟩
  · rw [mget_mset] at hj
    split at hj
    · cases hj
    · exact hj
  · rw [show ((x.toNat : Nat) : Int) = x by omega, h]; rfl
  · rw [show ((x.toNat : Nat) : Int) = x by omega, mget_mset, if_pos rfl]; rfl
/-- What a turn leads to is marked. -/
def Cls (r : S_api_Roster) (w : Int) (m : List (Int × Bool)) (y : Int) : Prop := ∀ z, inR r z = true → foB r y z = true → z ≠ w → mget m z = true
theorem Cls.mono {r : S_api_Roster} {w y : Int} {m m' : List (Int × Bool)} (h : ∀ y, mget m y = true → mget m' y = true) (hc : Cls r w m y) : Cls r w m' y := fun z h1 h2 h3 => h z (hc z h1 h2 h3)
section
variable {r : S_api_Roster} (h : Vd r) {g w : Int}
include h
theorem f133_so : ∀ (fuel : Nat) (m : List (Int × Bool)) (x : Int), unm r.2.2.2.2.length m < fuel → inR r x = true → (x ≠ w → Rch r g w x) →
    ∃ m', M.f133 fuel x m w r = some m' ∧ (∀ y, mget m y = true → mget m' y = true) ∧ (x ≠ w → mget m' x = true) ∧ (∀ y, mget m' y = true → mget m y = true ∨ Rch r g w y) ∧ (∀ y, mget m' y = true → mget m y = true ∨ Cls r w m' y)
  | 0, _, _, hf, _, _ => by omega
  | fuel + 1, m, x, hf, hx, hR => by
    have h24 := h.len
    have hx' := inR_iff.1 hx
    unfold M.f133
    by_cases q : x = w
    · have e : (mget m x || (x == w)) = true := by simp [q]
      rw [if_pos e]
      exact ⟨m, rfl, fun y hy => hy, fun q2 => absurd q q2, fun y hy => .inl hy, fun y hy => .inl hy⟩
    · have e0 : (x == w) = false := by simpa using q
      cases hm : mget m x with
      | true =>
        simp only [Bool.true_or, if_true]
        exact ⟨m, rfl, fun y hy => hy, fun _ => hm, fun y hy => .inl hy, fun y hy => .inl hy⟩
      | false =>
        simp only [e0, Bool.or_self, Bool.false_eq_true, if_false, Option.bind_eq_bind]
        have hu := unm_lt hx'.1 hx'.2 hm
        refine (bndX (forS_inv (N := r.2.2.2.2.length) (s := mset m x true) (fun k s => (∀ y, mget (mset m x true) y = true → mget s y = true) ∧ (∀ y, mget s y = true → mget m y = true ∨ Rch r g w y) ∧ (∀ y, mget s y = true → mget m y = true ∨ y = x ∨ Cls r w s y) ∧ ∀ j : Nat, j < k → foB r x (j : Int) = true → (j : Int) ≠ w → mget s (j : Int) = true) (by omega)
          ⟨fun y hy => hy, fun y hy => ?_, fun y hy => ?_, fun j hj => absurd hj (by omega)⟩ ?_) ?_)
        · rw [mget_mset] at hy
          split at hy
          · rename_i e; subst e; exact .inr (hR q)
          · exact .inl hy
        · rw [mget_mset] at hy
          split at hy
          · rename_i e; exact .inr (.inl e)
          · exact .inl hy
        · rintro k s hk ⟨h1, h2, h3, h4⟩
          have hk' : inR r (k : Int) = true := inR_iff.2 ⟨by omega, by omega⟩
          simp only [f95_eq h hx hk', Option.bind_some]
          cases hf2 : foB r x (k : Int) with
          | false =>
            simp only [Bool.false_eq_true, if_false, Option.bind_some]
            refine ⟨_, rfl, h1, h2, h3, fun j hj hfj hw => ?_⟩
            by_cases e : j = k
            · subst e; rw [hf2] at hfj; cases hfj
            · exact h4 j (by omega) hfj hw
          | true =>
            simp only [if_true]
            obtain ⟨m', e1, a1, a2, a3, a4⟩ := f133_so fuel s (k : Int) (by have := unm_le (n := r.2.2.2.2.length) h1; omega) hk' fun hw => .step (hR q) hk' hf2 hw
            rw [e1]
            refine ⟨_, rfl, fun y hy => a1 y (h1 y hy), fun y hy => ?_, fun y hy => ?_, fun j hj hfj hw => ?_⟩
            · rcases a3 y hy with b | b
              · exact h2 y b
              · exact .inr b
            · rcases a4 y hy with b | b
              · rcases h3 y b with b | b | b
                · exact .inl b
                · exact .inr (.inl b)
                · exact .inr (.inr (b.mono a1))
              · exact .inr (.inr b)
            · by_cases e : j = k
              · subst e; exact a2 hw
              · exact a1 _ (h4 j (by omega) hfj hw)
        · rintro s ⟨h1, h2, h3, h4⟩
          refine ⟨s, rfl, fun y hy => h1 y ?_, fun _ => h1 x ?_, h2, fun y hy => ?_⟩
          · rw [mget_mset]; split
            · rfl
            · exact hy
          · rw [mget_mset, if_pos rfl]
          · rcases h3 y hy with b | b | b
            · exact .inl b
            · subst b
              refine .inr fun z hz hf2 hw => ?_
              have hz' := inR_iff.1 hz
              have := h4 z.toNat (by omega)
              rw [show ((z.toNat : Nat) : Int) = z by omega] at this
              exact this hf2 hw
            · exact .inr b
open Classical in
/-- The turns that can be reached. -/
noncomputable def rchL (r : S_api_Roster) (g w : Int) : List Int := selI (fun j => decide (Rch r g w (j : Int))) r.2.2.2.2.length
omit h in
theorem rchL_mem {x : Int} : x ∈ rchL r g w ↔ Rch r g w x := by
  unfold rchL
  rw [selI_mem]
  constructor
  · rintro ⟨h1, h2, h3⟩
    rw [show ((x.toNat : Nat) : Int) = x by omega] at h3
    simpa using h3
  · intro h
    have := inR_iff.1 h.inRx
    refine ⟨this.1, this.2, ?_⟩
    rw [show ((x.toNat : Nat) : Int) = x by omega]
    simpa using h
omit h in
theorem selI_congr {p q : Nat → Bool} : ∀ {n : Nat}, (∀ j, j < n → p j = q j) → selI p n = selI q n
  | 0, _ => rfl
  | n + 1, hh => by rw [selI_succ, selI_succ, selI_congr (n := n) fun j hj => hh j (by omega), hh n (by omega)]
theorem f74_eq {fuel : Nat} (hf : 25 < fuel) : M.f74 fuel r g w = some (rchL r g w) := by
  have h24 := h.len
  unfold M.f74
  have e1 : M.f90 r g (fun x0 => M.f134 x0 r) = some (selI (fun j => (tnJ r j).1 == g && decide (bgI r (j : Int) ≤ 0)) r.2.2.2.2.length) := by
    refine f90_eq (fun j => decide (bgI r (j : Int) ≤ 0)) h24 fun j hj _ => ?_
    unfold M.f134
    simp only [f92_eq h (show inR r (j : Int) = true from inR_iff.2 ⟨by omega, by omega⟩), M.f93, Option.bind_eq_bind, Option.bind_some]
  simp only [e1, Option.bind_eq_bind, Option.bind_some]
  generalize hL : selI (fun j => (tnJ r j).1 == g && decide (bgI r (j : Int) ≤ 0)) r.2.2.2.2.length = L
  have hmem : ∀ x, x ∈ L ↔ inR r x = true ∧ (tn r x).1 = g ∧ bgI r x ≤ 0 := fun x => by
    rw [← hL, selI_mem, inR_iff]
    simp only [Bool.and_eq_true, beq_iff_eq, decide_eq_true_eq]
    constructor
    · rintro ⟨a, b, d, e⟩
      rw [show ((x.toNat : Nat) : Int) = x by omega] at e
      exact ⟨⟨a, b⟩, d, e⟩
    · rintro ⟨⟨a, b⟩, d, e⟩
      refine ⟨a, b, d, ?_⟩
      rw [show ((x.toNat : Nat) : Int) = x by omega]; exact e
  have hLl : L.length ≤ 24 := by rw [← hL]; exact Nat.le_trans (selI_len _ _) h24
  have hun : ∀ m, unm r.2.2.2.2.length m ≤ 24 := fun m => Nat.le_trans (List.length_filter_le _ _) (by simpa using h24)
  refine Exists.elim (forS_inv (N := L.length) (s := ([] : List (Int × Bool))) (f := fun i_5 s_7 => (idx L i_5).bind fun v_11 => (M.f133 fuel v_11 s_7 w r).bind fun z_13 => some z_13)
    (fun k s => (∀ y, mget s y = true → Rch r g w y) ∧ (∀ y, mget s y = true → Cls r w s y) ∧ ∀ j, j < k → L.getD j 0 ≠ w → mget s (L.getD j 0) = true) (by omega) (by simp [mget]) ?_) ?_
  · rintro k s hk ⟨h1, h2, h3⟩
    obtain ⟨a, b, d⟩ := (hmem _).1 (at_mem hk)
    obtain ⟨m', e1, a1, a2, a3, a4⟩ := f133_so h (g := g) (w := w) fuel s (L.getD k 0) (by have := hun s; omega) a fun hw => .one a b d hw
    simp only [idx_getD (d := (0 : Int)) hk, Option.bind_some, e1]
    refine ⟨_, rfl, fun y hy => ?_, fun y hy => ?_, fun j hj hw => ?_⟩
    · rcases a3 y hy with q | q
      · exact h1 y q
      · exact q
    · rcases a4 y hy with q | q
      · exact (h2 y q).mono a1
      · exact q
    · by_cases e : j = k
      · subst e; exact a2 hw
      · exact a1 _ (h3 j (by omega) hw)
  · rintro s ⟨hs, h1, h2, h3⟩
    rw [hs]
    simp only [Option.bind_some]
    have hrch : ∀ x, mget s x = true ↔ Rch r g w x := by
      intro x
      refine ⟨h1 x, fun hr => ?_⟩
      induction hr with
      | @one x a b d e =>
        obtain ⟨j, hj, hje⟩ := mem_at ((hmem x).2 ⟨a, b, d⟩)
        have := h3 j hj (by rw [hje]; exact e)
        rwa [hje] at this
      | @step x y hr hi hf hw ih => exact h2 x ih y hi hf hw
    rw [f90_eq (fun j => mget s (j : Int)) h24 fun j _ _ => rfl]
    simp only [Option.bind_some, Option.some.injEq]
    unfold rchL
    refine selI_congr fun j hj => ?_
    apply Bool.eq_iff_iff.2
    simp only [Bool.and_eq_true, beq_iff_eq, hrch, decide_eq_true_eq]
    exact ⟨fun q => q.2, fun q => ⟨q.gate, q⟩⟩
theorem f77_eq {l : List Int} (hl : l.length ≤ 4294967296) (ha : ∀ x ∈ l, inR r x = true) : M.f77 r l = some (l.any fun x => decide (enI r x ≤ 0)) := by
  unfold M.f77
  rw [f42_eq (fun x => decide (enI r x ≤ 0)) hl fun x hx => ?_]
  · rfl
  · unfold M.f137
    simp only [f102_eq h (ha x hx), M.f93, Option.bind_eq_bind, Option.bind_some]
end
end Go.Proofs.YthogdhepjcomjaaGreatDoor

/-
  What is proved: what the program's questions about plans and gaps return.
-/
namespace Go.Proofs.YthogdhepjcomjaaGreatDoor
open Go Go.Proofs.YthogdhepjcomjaaGreatDoor.Wh

theorem linkB_all {r : S_api_Roster} : ∀ l : List Int, linkB r l = (List.range (l.length - 1)).all fun k => decide (meI r (l.getD k 0) (l.getD (k + 1) 0) ≤ 0)
  | [] => rfl
  | [_] => rfl
  | x :: y :: l => by
    have ih := linkB_all (r := r) (y :: l)
    unfold linkB
    rw [ih]
    simp only [List.length_cons, Nat.add_sub_cancel]
    rw [List.range_succ_eq_map, List.all_cons, List.all_map]
    rfl
/-- What the lags of turns are. -/
def meP (r : S_api_Roster) (l : List Int) (k : Nat) : S_watch_lag := (meI r (l.getD k 0) (l.getD (k + 1) 0), (tn r (l.getD k 0)).2.2.2.1 == (tn r (l.getD (k + 1) 0)).2.1)
def bgP (r : S_api_Roster) (l : List Int) : S_watch_lag := (bgI r (l.getD 0 0), (0 : Int) == (tn r (l.getD 0 0)).2.1)
def enP (r : S_api_Roster) (l : List Int) : S_watch_lag := (enI r (l.getD (l.length - 1) 0), (tn r (l.getD (l.length - 1) 0)).2.2.2.1 == (0 : Int))
def lagF (r : S_api_Roster) (l : List Int) (j : Nat) : List S_watch_lag := bgP r l :: (List.range j).map (meP r l)
section
variable {r : S_api_Roster} (h : Vd r) {g : Int} {l : List Int}
include h
/-- Lags, handed one by one to a function that returns always. -/
theorem f127_eq {σ : Type} {fuel : Nat} {f : σ → S_watch_lag → Option σ} {s0 : σ} (G : Nat → σ) (E : σ) (hl : 0 < l.length) (hl2 : l.length ≤ 4294967295) (hf : l.length < fuel) (ha : l.all (inR r) = true)
    (h0 : f s0 (bgP r l) = some (G 0)) (h1 : ∀ j, j + 1 < l.length → f (G j) (meP r l j) = some (G (j + 1))) (h2 : f (G (l.length - 1)) (enP r l) = some E) : M.f127 fuel r l f s0 = some E := by
  have hi : ∀ j, j < l.length → inR r (l.getD j 0) = true := fun j hj => all_get ha hj
  unfold M.f127
  have e0 : idx l 0 = some (l.getD 0 0) := idx_getD (j := 0) hl
  have eL : idx l (wr ((l.length : Int) - 1)) = some (l.getD (l.length - 1) 0) := by
    rw [wr_id (by omega) (by omega), show (l.length : Int) - 1 = ((l.length - 1 : Nat) : Int) by omega]
    exact idx_getD (by omega)
  simp only [e0, f92_eq h (hi 0 hl), Option.bind_eq_bind, Option.bind_some]
  have h0' : f s0 (bgI r (l.getD 0 0), (0 : Int) == (tn r (l.getD 0 0)).2.1) = some (G 0) := h0
  rw [h0']
  simp only [Option.bind_some]
  refine bnd (loopM_go (N := l.length - 1) (fun j : Nat => (((j + 1 : Nat) : Int), G j)) (G (l.length - 1)) (by simp) (by omega) (fun j hj => ?_) ?_) ?_
  · have e1 : idx l (wr (((j + 1 : Nat) : Int) - 1)) = some (l.getD j 0) := by
      rw [wr_id (by omega) (by omega), show (((j + 1 : Nat) : Int) - 1) = (j : Int) by omega]
      exact idx_getD (by omega)
    have e2 : idx l ((j + 1 : Nat) : Int) = some (l.getD (j + 1) 0) := idx_getD (by omega)
    simp only [lt_dec (show j + 1 < l.length by omega), if_true, e1, e2, f149_eq h (hi j (by omega)) (hi (j + 1) (by omega)), Option.bind_some]
    have h1' : f (G j) (meI r (l.getD j 0) (l.getD (j + 1) 0), (tn r (l.getD j 0)).2.2.2.1 == (tn r (l.getD (j + 1) 0)).2.1) = some (G (j + 1)) := h1 j (by omega)
    rw [h1', wr_succ (by omega)]
    rfl
  · have : decide (((l.length - 1 + 1 : Nat) : Int) < (l.length : Int)) = false := by simp; omega
    rw [if_neg (by rw [this]; simp)]
  · have h2' : f (G (l.length - 1)) (enI r (l.getD (l.length - 1) 0), (tn r (l.getD (l.length - 1) 0)).2.2.2.1 == (0 : Int)) = some E := h2
    simp only [eL, f102_eq h (hi (l.length - 1) (by omega)), Option.bind_some, h2']
omit h in
theorem f156_eq {ls : List S_watch_lag} (hl : ls.length ≤ 4294967296) : M.f156 ls (fun x0 => M.f93 x0) = some (ls.all fun x => decide (x.1 ≤ 0)) := by
  unfold M.f156 M.f165 M.f170
  have h1 : ∀ x : S_watch_lag, M.f166 x (fun x0 => M.f93 x0) = some (!decide (x.1 ≤ 0)) := fun x => rfl
  simp only [Option.bind_eq_bind]
  have e : (forM (ρ := Int) 0 (ls.length : Int) (() : Unit) fun i_1 s_3 => (idx ls i_1).bind fun v_7 => (M.f166 v_7 (fun x0 => M.f93 x0)).bind fun v_9 => (if v_9 = true then some (Out.leave i_1) else some (Out.again ()))) =
      some (match ls.findIdx? (fun x => !decide (x.1 ≤ 0)) with | none => Out.again () | some k => Out.leave (k : Int)) := forM_idx ls (fun x => !decide (x.1 ≤ 0)) hl fun j x hx => by
    simp only [idx_nat, hx, Option.bind_some, h1]
    cases decide (x.1 ≤ 0) <;> rfl
  rw [e]
  have e2 := idxF_any (fun x : S_watch_lag => !decide (x.1 ≤ 0)) ls
  unfold idxF at e2
  rw [List.all_eq_not_any_not, ← e2]
  cases ls.findIdx? (fun x => !decide (x.1 ≤ 0)) <;> rfl
omit h in
theorem lagF_len {j : Nat} : (lagF r l j).length = j + 1 := by unfold lagF; simp
theorem lags_eq {fuel : Nat} (hlen : 0 < l.length) (hl2 : l.length ≤ 100) (hf : 100 < fuel) (ha : l.all (inR r) = true) : M.f127 fuel r l (fun s_ a_ => M.f155 a_ s_) [] = some (lagF r l (l.length - 1) ++ [enP r l]) := by
  have step : ∀ j x, j ≤ 100 → M.f155 x (lagF r l j) = some (lagF r l j ++ [x]) := fun j x hj => by
    unfold M.f155
    rw [app_one (show (lagF r l j).length ≤ 4294967295 by rw [lagF_len]; omega)]; rfl
  refine f127_eq h (lagF r l) _ hlen (by omega) (by omega) ha ?_ (fun j hj => ?_) ?_
  · unfold M.f155
    rw [app_one (show ([] : List S_watch_lag).length ≤ 4294967295 by simp)]; rfl
  · rw [step j _ (by omega)]
    unfold lagF
    rw [List.range_succ, List.map_append]
    rfl
  · exact step _ _ (by omega)
omit h in
theorem lags_len (hl2 : l.length ≤ 100) : (lagF r l (l.length - 1) ++ [enP r l]).length ≤ 4294967296 := by rw [List.length_append, lagF_len, List.length_singleton]; omega
omit h in
theorem lags_all : ((lagF r l (l.length - 1) ++ [enP r l]).all fun x => decide (x.1 ≤ 0)) = (decide (bgI r (l.getD 0 0) ≤ 0) && (linkB r l && decide (enI r (l.getD (l.length - 1) 0) ≤ 0))) := by
  rw [linkB_all]
  unfold lagF
  rw [List.all_append, List.all_cons, List.all_map, List.all_cons, List.all_nil, Bool.and_true, Bool.and_assoc]
  rfl
theorem f118_eq {fuel : Nat} (hl2 : l.length ≤ 100) (hf : 100 < fuel) : M.f118 fuel r g l = some (planB r g l) := by
  unfold M.f118 planB
  by_cases h0 : l = []
  · subst h0; simp [guardO]
  have hlen : 0 < l.length := List.length_pos_iff.2 h0
  have e0 : ((l.length : Int) == 0) = false := by rw [beq_eq_false_iff_ne]; omega
  have e1 : l.isEmpty = false := by rw [List.isEmpty_eq_false_iff]; exact h0
  have e86 : M.f86 l = some (difB l) := f86_eq (by omega)
  have e85 : M.f85 r l = some (if l.all (inR r) = true then 0 else 1) := by rw [f85_eq (by omega), if_pos h.h]
  rw [e0, e1, e86, e85]
  simp only [Bool.not_false, Bool.false_or, Bool.true_and, guardO, Option.bind_eq_bind, Option.bind_some]
  cases hd : difB l with
  | false => rfl
  | true =>
    simp only [Bool.not_true, Bool.not_false, Bool.false_or, Bool.true_and, Option.bind_some]
    cases ha : l.all (inR r) with
    | false => rfl
    | true =>
      simp only [if_true, bne_self_eq_false, Bool.false_eq_true, if_false, Bool.true_and]
      have e2 : M.f42 l (fun x0 => M.f154 x0 r g) = some (l.any fun x => !((tn r x).1 == g)) := f42_eq _ (by omega) fun x hx => by
        unfold M.f154
        simp only [Vd.idxT (List.all_eq_true.1 ha x hx), Option.bind_eq_bind, Option.bind_some]
        rfl
      simp only [e2, Option.bind_some]
      have e3 : (l.any fun x => !((tn r x).1 == g)) = !l.all (fun x => (tn r x).1 == g) := by rw [List.all_eq_not_any_not, Bool.not_not]
      rw [e3]
      cases l.all (fun x => (tn r x).1 == g) with
      | false => rfl
      | true =>
        simp only [Bool.not_true, Bool.false_eq_true, if_false, Bool.true_and]
        rw [lags_eq h hlen hl2 hf ha, Option.bind_some, f156_eq (lags_len hl2), Option.bind_some, lags_all]
/-- What CheckPlan returns. -/
def chkP (r : S_api_Roster) (g : Int) (l : List Int) : Int := if gateE r g = 0 then (if planB r g l = true then 0 else 71) else gateE r g
omit h in
theorem f35_eq {fuel : Nat} (hl2 : l.length ≤ 100) (hf : 100 < fuel) : M.f35 fuel r g l = some (chkP r g l) := by
  unfold M.f35 chkP
  rw [f73_eq]
  simp only [Option.bind_eq_bind, Option.bind_some]
  by_cases q : gateE r g = 0
  · rw [if_neg (by simp [q]), if_pos q, f118_eq (gateE_zero q).1 hl2 hf]
    simp only [Option.bind_some]
    cases planB r g l <;> rfl
  · rw [if_pos (by simpa using q), if_neg q]

/-! ### gaps -/
def srtB (l : List Int) : Bool := (List.range (l.length - 1)).all fun k => decide (l.getD k 0 ≤ l.getD (k + 1) 0)
omit h in
theorem f87_eq {fuel : Nat} (hl2 : l.length ≤ 4294967295) (hf : l.length < fuel) : M.f87 fuel l = some (srtB l) := by
  unfold M.f87
  have hlt : ∀ x y : Int, M.f147 x y = some (decide (x < y)) := fun x y => by
    unfold M.f147 M.f162
    simp [guardO]
  by_cases h0 : l.length = 0
  · have : l = [] := List.length_eq_zero_iff.1 h0
    subst this
    cases fuel with
    | zero => simp at hf
    | succ n => rfl
  refine bnd (loopM_test (ρ := Unit ⊕ Bool) (N := l.length - 1) (fun j : Nat => ((l.length - 1 - j : Nat) : Int)) (fun j => decide (l.getD (l.length - 1 - j - 1) 0 ≤ l.getD (l.length - 1 - j) 0)) (.inr false) (.inl ()) ?_ (by omega) (fun j hj _ => ?_) ?_) ?_
  · rw [wr_id (by omega) (by omega)]
    omega
  · have e0 : decide ((0 : Int) < ((l.length - 1 - j : Nat) : Int)) = true := by simp; omega
    have e1 : idx l ((l.length - 1 - j : Nat) : Int) = some (l.getD (l.length - 1 - j) 0) := idx_getD (by omega)
    have e3 : wr (((l.length - 1 - j : Nat) : Int) - 1) = ((l.length - 1 - (j + 1) : Nat) : Int) := by rw [wr_id (by omega) (by omega)]; omega
    have e2 : idx l ((l.length - 1 - (j + 1) : Nat) : Int) = some (l.getD (l.length - 1 - (j + 1)) 0) := idx_getD (by omega)
    simp only [e0, if_true, e1, e3, e2, hlt, Option.bind_eq_bind, Option.bind_some]
    rw [show l.length - 1 - j - 1 = l.length - 1 - (j + 1) by omega]
    by_cases q : l.getD (l.length - 1 - j) 0 < l.getD (l.length - 1 - (j + 1)) 0
    · rw [if_pos (by rw [decide_eq_true_eq]; exact q), if_neg (by rw [decide_eq_true_eq]; omega)]
    · rw [if_neg (by rw [decide_eq_true_eq]; exact q), if_pos (by rw [decide_eq_true_eq]; omega)]
  · have e0 : decide ((0 : Int) < ((l.length - 1 - (l.length - 1) : Nat) : Int)) = false := by simp
    simp only [e0, Bool.false_eq_true, if_false]
  · have e : ((List.range (l.length - 1)).all fun j => decide (l.getD (l.length - 1 - j - 1) 0 ≤ l.getD (l.length - 1 - j) 0)) = srtB l := by
      unfold srtB
      apply Bool.eq_iff_iff.2
      simp only [List.all_eq_true, List.mem_range, decide_eq_true_eq]
      constructor
      · intro q k hk
        have := q (l.length - 2 - k) (by omega)
        rwa [show l.length - 1 - (l.length - 2 - k) - 1 = k by omega, show l.length - 1 - (l.length - 2 - k) = k + 1 by omega] at this
      · intro q j hj
        have := q (l.length - 1 - j - 1) (by omega)
        rwa [show l.length - 1 - j - 1 + 1 = l.length - 1 - j by omega] at this
    rw [e]
    cases srtB l <;> rfl
/-- Turns of a gate, one behind the other. -/
def gapA (r : S_api_Roster) (g : Int) (l : List Int) : Bool := l.all (inR r) && (difB l && (srtB l && l.all (fun x => (tn r x).1 == g)))
/-- What is not there, though it can be reached. -/
def misB (r : S_api_Roster) (g : Int) (l : List Int) (j : Nat) : Bool := (tnJ r j).1 == g && (!l.contains (j : Int) && (decide (bgI r (j : Int) ≤ 0) || l.any fun k => foB r k (j : Int)))
def chkG (r : S_api_Roster) (g : Int) (l : List Int) : Int := if gateE r g = 0 then (if gapA r g l = true then (if (l.any (fun x => decide (enI r x ≤ 0)) || (List.range r.2.2.2.2.length).any (misB r g l)) = true then 32 else 0) else 1) else gateE r g
omit h in
theorem selI_pos {p : Nat → Bool} {n : Nat} : decide (0 < ((selI p n).length : Int)) = (List.range n).any p := by
  apply Bool.eq_iff_iff.2
  rw [decide_eq_true_eq, List.any_eq_true]
  constructor
  · intro hh
    obtain ⟨x, hx⟩ := List.exists_mem_of_length_pos (show 0 < (selI p n).length by omega)
    obtain ⟨a, b, d⟩ := selI_mem.1 hx
    exact ⟨x.toNat, List.mem_range.2 (by omega), d⟩
  · rintro ⟨j, hj, hp⟩
    have : (j : Int) ∈ selI p n := selI_mem.2 ⟨by omega, by have := List.mem_range.1 hj; omega, by simpa using hp⟩
    have := List.length_pos_of_mem this
    omega
omit h in
theorem f25_eq {fuel : Nat} (hl2 : l.length ≤ 100) (hf : 100 < fuel) : M.f25 fuel r g l = some (chkG r g l) := by
  unfold M.f25 chkG
  rw [f73_eq]
  simp only [Option.bind_eq_bind, Option.bind_some]
  by_cases q : ¬ gateE r g = 0
  · rw [if_pos (by simpa using q), if_neg q]
  replace q : gateE r g = 0 := by omega
  rw [if_neg (by simp [q]), if_pos q]
  have h := (gateE_zero q).1
  have h24 := h.len
  unfold gapA
  simp only [f85_eq (show l.length ≤ 4294967296 by omega), h.h, if_true, Option.bind_some]
  cases ha : l.all (inR r) with
  | false => simp [guardO]
  | true =>
    simp only [if_true, bne_self_eq_false, Bool.not_false, guardO, f86_eq (show l.length ≤ 4294967296 by omega), Option.bind_some, Bool.false_or, Bool.true_and]
    cases hd : difB l with
    | false => simp
    | true =>
      simp only [Bool.not_true, Bool.not_false, f87_eq (show l.length ≤ 4294967295 by omega) (show l.length < fuel by omega), Option.bind_some, Bool.false_or, Bool.true_and]
      cases hs : srtB l with
      | false => simp
      | true =>
        have e2 : M.f42 l (fun x0 => M.f88 x0 r g) = some (l.any fun x => !((tn r x).1 == g)) := f42_eq _ (by omega) fun x hx => by
          unfold M.f88
          simp only [Vd.idxT (List.all_eq_true.1 ha x hx), Option.bind_eq_bind, Option.bind_some]
          rfl
        have e3 : (l.any fun x => !((tn r x).1 == g)) = !l.all (fun x => (tn r x).1 == g) := by rw [List.all_eq_not_any_not, Bool.not_not]
        simp only [Bool.not_true, Bool.not_false, e2, e3, Option.bind_some, Bool.false_or, Bool.true_and]
        cases hg : l.all (fun x => (tn r x).1 == g) with
        | false => rfl
        | true =>
          simp only [Bool.not_true, Bool.false_eq_true, if_false, if_true]
          have e4 : M.f90 r g (fun x0 => M.f91 x0 (fun x0 => M.f89 x0 l) r l) = some (selI (misB r g l) r.2.2.2.2.length) := by
            refine f90_eq (fun j => !l.contains (j : Int) && (decide (bgI r (j : Int) ≤ 0) || l.any fun k => foB r k (j : Int))) h24 fun j hj _ => ?_
            have hx : inR r (j : Int) = true := inR_iff.2 ⟨by omega, by omega⟩
            unfold M.f91 M.f89
            simp only [f44_eq (show l.length ≤ 4294967296 by omega), Option.bind_eq_bind, Option.bind_some]
            cases hc : l.contains (j : Int) with
            | true => simp [guardO]
            | false =>
              simp only [Bool.not_false, guardO, f92_eq h hx, M.f93, Option.bind_some, Bool.true_and]
              cases hb : decide (bgI r (j : Int) ≤ 0) with
              | true => simp [guardO]
              | false =>
                have e5 : M.f42 l (fun x0 => M.f94 x0 r (j : Int)) = some (l.any fun k => foB r k (j : Int)) := f42_eq _ (by omega) fun x hx2 => by
                  unfold M.f94
                  simp only [f95_eq h (List.all_eq_true.1 ha x hx2) hx, Option.bind_eq_bind, Option.bind_some]
                simp only [Bool.not_false, e5, Option.bind_some, Bool.false_or]
          simp only [e4, f77_eq h (show l.length ≤ 4294967296 by omega) (List.all_eq_true.1 ha), Option.bind_some, selI_pos]
          generalize (l.any (fun x => decide (enI r x ≤ 0)) || (List.range r.2.2.2.2.length).any (misB r g l)) = v
          cases v <;> rfl
omit h in
theorem rchL_len {w : Int} : (rchL r g w).length ≤ r.2.2.2.2.length := selI_len _ _
omit h in
open Classical in
/-- What Gap returns. -/
noncomputable def gapV (r : S_api_Roster) (g : Int) : List Int × Bool × Int :=
  if gateE r g = 0 then (if (rchL r g (-1)).any (fun x => decide (enI r x ≤ 0)) = true then ([], false, 0) else (rchL r g (-1), true, 0)) else ([], false, gateE r g)
omit h in
theorem f18_eq {fuel : Nat} (hf : 25 < fuel) : M.f18 fuel r g = some (if gateE r g = 0 then (rchL r g (-1), 0) else ([], gateE r g)) := by
  unfold M.f18
  rw [f73_eq]
  simp only [Option.bind_eq_bind, Option.bind_some]
  by_cases q : gateE r g = 0
  · rw [if_neg (by simp [q]), if_pos q, f74_eq (gateE_zero q).1 hf]
    rfl
  · rw [if_pos (by simpa using q), if_neg q]
omit h in
theorem f20_eq {fuel : Nat} (hf : 25 < fuel) : M.f20 fuel r g = some (gapV r g) := by
  unfold M.f20 gapV
  rw [f18_eq hf]
  simp only [Option.bind_eq_bind, Option.bind_some]
  by_cases q : gateE r g = 0
  · have h := (gateE_zero q).1
    have h24 := h.len
    have hl := rchL_len (r := r) (g := g) (w := -1)
    rw [if_pos q, if_pos q]
    simp only [bne_self_eq_false, Bool.not_false, guardO, f77_eq h (show (rchL r g (-1)).length ≤ 4294967296 by omega) (fun x hx => (rchL_mem.1 hx).inRx), Option.bind_some, Bool.false_or]
    generalize ((rchL r g (-1)).any fun x => decide (enI r x ≤ 0)) = v
    cases v <;> rfl
  · have e : (gateE r g != 0) = true := by simpa using q
    rw [if_neg q, if_neg q]
    simp only [e, Bool.not_true, guardO, Option.bind_some, Bool.true_or, if_true]
end
end Go.Proofs.YthogdhepjcomjaaGreatDoor

/-
  What is proved: what can be reached is a gap, if there is no plan; a gap has all that can be reached.
-/
namespace Go.Proofs.YthogdhepjcomjaaGreatDoor
open Go Go.Proofs.YthogdhepjcomjaaGreatDoor.Wh

section
variable {r : S_api_Roster} (h : Vd r) {g : Int}
include h
theorem f34_so {fuel : Nat} (h0 : 0 ≤ g) (h1 : g < r.1) (hf : wayB r.2.2.2.2.length < fuel) : ∃ l, M.f34 fuel r g = some (l, !l.isEmpty, 0) ∧ IsBest r g (cB r) l := by
  obtain ⟨l, e, hb⟩ := f79_so h (g := g) (by_cmp h) fuel hf
  refine ⟨l, ?_, hb⟩
  unfold M.f34
  rw [f73_eq, gateE_of h h0 h1]
  have e2 : M.f80 r = some (fun x0 x1 => M.f140 x0 x1 r) := rfl
  simp only [Option.bind_eq_bind, Option.bind_some, bne_self_eq_false, Bool.false_eq_true, if_false, e2, e]
theorem IsBest.len {c : List Int → List Int → Int} {l : List Int} (hb : IsBest r g c l) : l.length ≤ 24 := by
  rcases hb with ⟨rfl, _⟩ | ⟨z, h1, _⟩
  · simp
  · exact (h1.good h).2
omit h in
theorem rch_late : (rchL r g (-1)).any (fun x => decide (enI r x ≤ 0)) = true ↔ ∃ l, planB r g l = true := by
  rw [List.any_eq_true]
  constructor
  · rintro ⟨x, hx, he⟩
    obtain ⟨l, hw, _⟩ := (rchL_mem.1 hx).way
    exact ⟨l, planB_iff.2 ⟨x, hw, by simpa using he⟩⟩
  · rintro ⟨l, hl⟩
    obtain ⟨x, hw, he⟩ := planB_iff.1 hl
    refine ⟨x, rchL_mem.2 (hw.rch fun hm => ?_), by simpa using he⟩
    have := inR_iff.1 (hw.all _ hm).1
    omega
omit h in
theorem selI_incr {p : Nat → Bool} : ∀ n, (selI p n).Pairwise (· < ·) ∧ ∀ x ∈ selI p n, x < (n : Int)
  | 0 => by simp [selI]
  | n + 1 => by
    obtain ⟨h1, h2⟩ := selI_incr (p := p) n
    rw [selI_succ]
    split
    · refine ⟨List.pairwise_append.2 ⟨h1, by simp, fun a ha b hb => ?_⟩, fun x hx => ?_⟩
      · rw [List.mem_singleton] at hb; subst hb; exact h2 a ha
      · rcases List.mem_append.1 hx with hx | hx
        · have := h2 x hx; omega
        · rw [List.mem_singleton] at hx; omega
    · exact ⟨h1, fun x hx => by have := h2 x hx; omega⟩
omit h in
theorem incr_dif {l : List Int} (h : l.Pairwise (· < ·)) : difB l = true ∧ srtB l = true := by
  refine ⟨difB_iff.2 (h.imp fun h e => by omega), ?_⟩
  unfold srtB
  rw [List.all_eq_true]
  intro k hk
  rw [List.pairwise_iff_getElem] at h
  have hk := List.mem_range.1 hk
  have := h k (k + 1) (by omega) (by omega) (by omega)
  rw [decide_eq_true_eq, List.getD_eq_getElem?_getD, List.getD_eq_getElem?_getD, List.getElem?_eq_getElem (by omega), List.getElem?_eq_getElem (by omega)]
  simp only [Option.getD_some]
  omega
/-- What can be reached is a gap, if none of it ends late enough. -/
theorem rch_gap (h0 : 0 ≤ g) (h1 : g < r.1) (hl : (rchL r g (-1)).any (fun x => decide (enI r x ≤ 0)) = false) : chkG r g (rchL r g (-1)) = 0 := by
  unfold chkG
  have hi := incr_dif (selI_incr (p := fun j => @decide (Rch r g (-1) (j : Int)) (Classical.propDecidable _)) r.2.2.2.2.length).1
  have e1 : gapA r g (rchL r g (-1)) = true := by
    unfold gapA
    simp only [Bool.and_eq_true, List.all_eq_true, beq_iff_eq]
    exact ⟨fun x hx => (rchL_mem.1 hx).inRx, hi.1, hi.2, fun x hx => (rchL_mem.1 hx).gate⟩
  have e2 : (List.range r.2.2.2.2.length).any (misB r g (rchL r g (-1))) = false := by
    rw [List.any_eq_false]
    intro j hj hm
    have hj := List.mem_range.1 hj
    unfold misB at hm
    simp only [Bool.and_eq_true, beq_iff_eq, Bool.not_eq_true', Bool.or_eq_true, decide_eq_true_eq, List.any_eq_true] at hm
    obtain ⟨a, b, d⟩ := hm
    have hjR : inR r (j : Int) = true := inR_iff.2 ⟨by omega, by omega⟩
    have : Rch r g (-1) (j : Int) := by
      rcases d with d | ⟨k, hk, hf⟩
      · exact .one hjR a d (by omega)
      · exact .step (rchL_mem.1 hk) hjR hf (by omega)
    have := rchL_mem.2 this
    rw [← List.contains_iff_mem, b] at this
    cases this
  rw [gateE_of h h0 h1, if_pos rfl, if_pos e1, hl, e2]
  rfl
end
theorem chkP_zero {r : S_api_Roster} (h : Vd r) {g : Int} (h0 : 0 ≤ g) (h1 : g < r.1) {l : List Int} : chkP r g l = if planB r g l = true then 0 else 71 := by
  unfold chkP
  rw [gateE_of h h0 h1, if_pos rfl]
end Go.Proofs.YthogdhepjcomjaaGreatDoor

/-
  What is proved: what the program's prices are, and how they are checked.
-/
namespace Go.Proofs.YthogdhepjcomjaaGreatDoor
open Go Go.Proofs.YthogdhepjcomjaaGreatDoor.Wh

theorem IsBest.good {r : S_api_Roster} (h : Vd r) {g : Int} {c : List Int → List Int → Int} {l : List Int} (hb : IsBest r g c l) : Good r l := by
  rcases hb with ⟨rfl, _⟩ | ⟨z, h1, _⟩
  · exact ⟨rfl, by simp⟩
  · exact (h1.good h).1
section
variable {r : S_api_Roster} (h : Vd r) {g : Int}
include h
/-! ### prices that are checked -/
omit h in
theorem cB_le {a b : List Int} (hh : cB r a b ≤ 0) : csum r a ≤ csum r b := by
  unfold cB at hh
  rw [cc_le] at hh
  omega
end
end Go.Proofs.YthogdhepjcomjaaGreatDoor
