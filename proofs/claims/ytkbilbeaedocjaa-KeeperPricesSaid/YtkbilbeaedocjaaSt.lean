/-
  What is proved: the state of a walk: facts on slots, and the things that the call owns; what each operation does to it.
-/
import Derived.Test.YtkbilbeaedocjaaTab3
import Derived.Test.YtkbilbeaedocjaaFloat
namespace Go.Proofs.Ytkbilbeaedocjaa.Wh
open Go Go.RowKit

/-- A thing of the call's own: its blocks, and what is so of it. -/
structure Item where
  o : Nat → Bool
  p : Mem → World → Prop
  kept : ∀ {c c' : Mem} {w w' : World}, p c w → Mem.le c c' → w.heap.size ≤ w'.heap.size → (∀ b, o b = true → w'.heap[b]? = w.heap[b]?) → p c' w'
def Item.sl {α : Type} [Enc α] (E : TypeId) (v : Value) (xs : List α) : Item := ⟨ob v, fun c w => Own E 0 c w v xs, fun h hc _ hb => own_kept h hc hb⟩
def Item.tab {α : Type} [Enc α] (RT E : TypeId) (v : Value) (o : Nat → Bool) (rs : List Value) (rows : List (List α)) : Item := ⟨o, fun c w => OwnT RT E 0 c w v o rs rows, fun h hc hs hb => ownT_kept h hc hs hb⟩
def Item.box {α : Type} [Enc α] (T : TypeId) (b : Nat) (x : α) : Item := ⟨bx b, fun c w => OwnB T 0 c w b x, fun h hc _ hb => ownB_kept h hc (hb b (bx_iff.2 rfl))⟩
def Item.hole {α : Type} [Enc α] (RT E : TypeId) (v : Value) (o : Nat → Bool) (i : Nat) (rs : List Value) (rows : List (List α)) : Item := ⟨o, fun c w => OwnH RT E 0 c w v o i rs rows, fun h hc hs hb => ownH_kept h hc hs hb⟩
abbrev Its (js : List Item) : List (Nat → Bool) := js.map Item.o
structure St (n : Nat) (F0 : Nat → Bool) (js : List Item) (Γ : List (Nat × Pr)) (w0 : World) (a : Act) (w : World) : Prop where
  at_ : At n (pf F0 (Its js)) Γ a w
  apart : Apart (Its js)
  own : ∀ (k : Nat) (it : Item), js[k]? = some it → it.p (vw (pf F0 (Its js)) w) w
  low : ∀ (k : Nat) (it : Item) (b : Nat), js[k]? = some it → it.o b = true → w0.heap.size ≤ b
  below : Below w0.heap.size w0 w
  base : ∀ b, F0 b = true → b < w0.heap.size
theorem its_at {js : List Item} {k : Nat} {it : Item} (h : js[k]? = some it) : (Its js)[k]? = some it.o := by simp [Its, h]
theorem its_get {js : List Item} {k : Nat} {o : Nat → Bool} (h : (Its js)[k]? = some o) : ∃ it, js[k]? = some it ∧ it.o = o := by
  rw [show (Its js)[k]? = (js[k]?).map Item.o from List.getElem?_map] at h
  simpa using h
theorem its_set {js : List Item} {k : Nat} {it : Item} : Its (js.set k it) = (Its js).set k it.o := by simp [Its, List.map_set]
theorem its_erase {js : List Item} {k : Nat} : Its (js.eraseIdx k) = (Its js).eraseIdx k := by
  apply List.ext_getElem?
  intro j
  simp only [Its, List.getElem?_map, List.getElem?_eraseIdx]
  split <;> simp
theorem its_push {js : List Item} {it : Item} : Its (js ++ [it]) = Its js ++ [it.o] := by simp [Its]
theorem own_up {α : Type} [Enc α] {E B : Nat} {c : Mem} {w : World} {v : Value} {xs : List α} (h : Own E 0 c w v xs) (hB : ∀ b, ob v b = true → B ≤ b) : Own E B c w v xs := by
  obtain ⟨cells, hr, hl⟩ := h.row
  refine ⟨cells, ⟨hr.1, ?_⟩, hl⟩
  rcases hr.2 with h1 | ⟨g, cap, cur, rfl, h2, h3, h4⟩
  · exact .inl h1
  · exact .inr ⟨g, cap, cur, rfl, hB g (ob_iff.2 rfl), h3, h4⟩
theorem own_dn {α : Type} [Enc α] {E B : Nat} {c : Mem} {w : World} {v : Value} {xs : List α} (h : Own E B c w v xs) : Own E 0 c w v xs := by
  obtain ⟨cells, hr, hl⟩ := h.row
  refine ⟨cells, ⟨hr.1, ?_⟩, hl⟩
  rcases hr.2 with h1 | ⟨g, cap, cur, rfl, h2, h3, h4⟩
  · exact .inl h1
  · exact .inr ⟨g, cap, cur, rfl, Nat.zero_le _, h3, h4⟩
theorem ownsRow_to {w : World} {B B' E size n : Nat} {v : Value} {xs : List Value} (h : w.ownsRow B E size v n xs) (hb : ∀ k, v.ownBlock = some k → B' ≤ k) : w.ownsRow B' E size v n xs := by
  refine ⟨h.1, ?_⟩
  rcases h.2 with h1 | ⟨g, cap, cur, rfl, h2, h3, h4⟩
  · exact .inl h1
  · exact .inr ⟨g, cap, cur, rfl, hb g rfl, h3, h4⟩
theorem ownT_to {α : Type} [Enc α] {RT E : TypeId} {B B' : Nat} {c : Mem} {w : World} {v : Value} {o : Nat → Bool} {rs : List Value} {rows : List (List α)} (h : OwnT RT E B c w v o rs rows) (hb : ∀ k, o k = true → B' ≤ k) : OwnT RT E B' c w v o rs rows := by
  obtain ⟨h1, h2, h3, h4, h5, h6⟩ := h.out
  refine ⟨⟨ownsRow_to h1 (fun k hk => hb k (h5 k hk)), fun i u r hu hr => ?_, h3, h4, h5, h6⟩, fun b hb' => ⟨hb b hb', (h.lt b hb').2⟩⟩
  obtain ⟨cells, hc1, hc2⟩ := h2 i u r hu hr
  exact ⟨cells, ownsRow_to hc1 (fun k hk => hb k (h6 i u k hu hk)), hc2⟩
theorem ownB_to {α : Type} [Enc α] {T : TypeId} {B B' : Nat} {c : Mem} {w : World} {b : Nat} {x : α} (h : OwnB T B c w b x) (hb : B' ≤ b) : OwnB T B' c w b x := ⟨h.out, hb⟩
section
variable {P : Program} {Γ : List (Nat × Pr)} {n : Nat} {F0 : Nat → Bool} {js : List Item} {w0 w : World} {a : Act} {ops : Array Oper} {Q : Exit → Act → World → Prop}
theorem st_start (hF : ∀ b, F0 b = true → b < w0.heap.size) (h : At n F0 Γ a w0) : St n F0 [] Γ w0 a w0 :=
  ⟨at_pf h, apart_nil, fun k it h => by simp at h, fun k it b h => by simp at h, Below.refl _ _, hF⟩
theorem St.lt (h : St n F0 js Γ w0 a w) {k : Nat} {it : Item} (hk : js[k]? = some it) {b : Nat} (hb : it.o b = true) : b < w.heap.size := h.at_.own b (pf_iff.2 (.inr ⟨k, it.o, its_at hk, hb⟩))
theorem St.weak {Δ : List (Nat × Pr)} (h : St n F0 js Γ w0 a w) (hl : AllOd Γ Δ) : St n F0 js Δ w0 a w := ⟨h.at_.weak hl, h.apart, h.own, h.low, h.below, h.base⟩
theorem St.keep {Δ : List (Nat × Pr)} (h : St n F0 js Γ w0 a w) (hl : AllLk Γ Δ) : St n F0 js Δ w0 a w := ⟨h.at_.keep hl, h.apart, h.own, h.low, h.below, h.base⟩
/-- Something grew. -/
theorem St.grow {Γ' : List (Nat × Pr)} {a' : Act} {w' : World} (h : St n F0 js Γ w0 a w) (hb : Below w.heap.size w w') (hA : At n (pf F0 (Its js)) Γ' a' w') : St n F0 js Γ' w0 a' w' :=
  ⟨hA, h.apart, fun k it hk => it.kept (h.own k it hk) (vw_below hb) hb.size (fun b hb' => hb.block b (h.lt hk hb')), h.low, below_trans' h.below hb, h.base⟩
/-- One thing turned. -/
theorem St.change {k : Nat} {it it' : Item} {Γ' : List (Nat × Pr)} {a' : Act} {w' : World} (h : St n F0 js Γ w0 a w) (hk : js[k]? = some it) (hA : At n (pf F0 ((Its js).set k it'.o)) Γ' a' w') (hB : Below w0.heap.size w0 w') (hsz : w.heap.size ≤ w'.heap.size)
    (ho : ∀ b, it'.o b = true → it.o b = true ∨ w.heap.size ≤ b) (hp : it'.p (vw (pf F0 ((Its js).set k it'.o)) w') w') (hblk : ∀ b, b < w.heap.size → it.o b = false → w'.heap[b]? = w.heap[b]?) (hle : Mem.le (vw (pf F0 (Its js)) w) (vw (pf F0 ((Its js).set k it'.o)) w')) :
    St n F0 (js.set k it') Γ' w0 a' w' := by
  have hkl : k < js.length := (List.getElem?_eq_some_iff.1 hk).1
  refine ⟨by rw [its_set]; exact hA, by rw [its_set]; exact apart_set h.apart (its_at hk) h.at_.own ho, fun j u hj => ?_, fun j u b hj hb => ?_, hB, h.base⟩
  · rw [its_set]
    rw [List.getElem?_set] at hj
    rw [show (if k < js.length then some it' else none) = some it' from if_pos hkl] at hj
    split at hj
    · rename_i e; subst e
      cases hj; exact hp
    · rename_i e
      exact u.kept (h.own j u hj) hle hsz (fun b hb => hblk b (h.lt hj hb) (h.apart j k _ _ (its_at hj) (its_at hk) (fun e' => e e'.symm) b hb))
  · rw [List.getElem?_set] at hj
    rw [show (if k < js.length then some it' else none) = some it' from if_pos hkl] at hj
    split at hj
    · rename_i e; subst e
      cases hj
      rcases ho b hb with h1 | h1
      · exact h.low k it b hk h1
      · exact Nat.le_trans h.below.size h1
    · exact h.low j u b hj hb
/-- Something new. -/
theorem St.push {it : Item} {Γ' : List (Nat × Pr)} {a' : Act} {w' : World} (h : St n F0 js Γ w0 a w) (hb : Below w.heap.size w w') (hA : At n (pf F0 (Its js ++ [it.o])) Γ' a' w') (ho : ∀ b, it.o b = true → w.heap.size ≤ b) (hp : it.p (vw (pf F0 (Its js ++ [it.o])) w') w')
    (hle : Mem.le (vw (pf F0 (Its js)) w) (vw (pf F0 (Its js ++ [it.o])) w')) : St n F0 (js ++ [it]) Γ' w0 a' w' := by
  have hcase : ∀ (j : Nat) (u : Item), (js ++ [it])[j]? = some u → js[j]? = some u ∨ u = it := by
    intro j u hj
    rw [List.getElem?_append] at hj
    split at hj
    · exact .inl hj
    · cases hq : j - js.length with
      | zero => rw [hq] at hj; exact .inr (by simpa using hj.symm)
      | succ q => rw [hq] at hj; simp at hj
  refine ⟨by rw [its_push]; exact hA, by rw [its_push]; exact apart_push h.apart h.at_.own ho, fun j u hj => ?_, fun j u b hj hb' => ?_, below_trans' h.below hb, h.base⟩
  · rw [its_push]
    rcases hcase j u hj with hj | rfl
    · exact u.kept (h.own j u hj) hle hb.size (fun b hb' => hb.block b (h.lt hj hb'))
    · exact hp
  · rcases hcase j u hj with hj | rfl
    · exact h.low j u b hj hb'
    · exact Nat.le_trans h.below.size (ho b hb')
/-- Something is let go. -/
theorem St.drop (k : Nat) {Γ' : List (Nat × Pr)} (h : St n F0 js Γ w0 a w) (hA : At n (pf F0 ((Its js).eraseIdx k)) Γ' a w) : St n F0 (js.eraseIdx k) Γ' w0 a w := by
  have hcase : ∀ (j : Nat) (u : Item), (js.eraseIdx k)[j]? = some u → ∃ i : Nat, js[i]? = some u := by
    intro j u hj
    rw [List.getElem?_eraseIdx] at hj
    split at hj
    · exact ⟨j, hj⟩
    · exact ⟨j + 1, hj⟩
  refine ⟨by rw [its_erase]; exact hA, by rw [its_erase]; exact apart_erase h.apart k, fun j u hj => ?_, fun j u b hj hb => ?_, h.below, h.base⟩
  · rw [its_erase]
    obtain ⟨i, hi⟩ := hcase j u hj
    exact u.kept (h.own i u hi) (vw_less fun _ hb => pf_erase hb) (Nat.le_refl _) (fun _ _ => rfl)
  · obtain ⟨i, hi⟩ := hcase j u hj
    exact h.low i u b hi hb
theorem st_drop (k : Nat) (h : St n F0 js Γ w0 a w) : St n F0 (js.eraseIdx k) Γ w0 a w := h.drop k (at_drop k h.at_)
theorem st_nil {α : Type} [Enc α] (E : TypeId) (h : St n F0 js Γ w0 a w) : St n F0 (js ++ [Item.sl E (.slice none 0 0) ([] : List α)]) Γ w0 a w :=
  h.push (Below.refl _ _) (at_own_nil h.at_) (fun b hb => by simp [Item.sl, ob, Value.ownBlock] at hb) own_nil (by
    have : pf F0 (Its js ++ [(Item.sl E (.slice none 0 0) ([] : List α)).o]) = pf F0 (Its js) := pf_push_nil
    rw [this]; exact Mem.le_refl _)
theorem st_nilT {α : Type} [Enc α] (RT E : TypeId) (h : St n F0 js Γ w0 a w) : St n F0 (js ++ [Item.tab RT E (.slice none 0 0) (ob (.slice none 0 0)) [] ([] : List (List α))]) Γ w0 a w :=
  h.push (Below.refl _ _) (at_own_nil h.at_) (fun b hb => by simp [Item.tab, ob, Value.ownBlock] at hb) ownT_nil (by
    have : pf F0 (Its js ++ [(Item.tab RT E (.slice none 0 0) (ob (.slice none 0 0)) [] ([] : List (List α))).o]) = pf F0 (Its js) := pf_push_nil
    rw [this]; exact Mem.le_refl _)
theorem St.it {k : Nat} {it : Item} (h : St n F0 js Γ w0 a w) (hk : js[k]? = some it) : it.p (vw (pf F0 (Its js)) w) w := h.own k it hk
theorem st_freeze {α : Type} [Enc α] {E : TypeId} {v : Value} {xs : List α} (k t : Nat) (h : St n F0 js Γ w0 a w) (hk : js[k]? = some (Item.sl E v xs)) (e : lk Γ t = some (Pr.is v)) : St n F0 (js.eraseIdx k) ((t, isV xs) :: Γ) w0 a w :=
  h.drop k (at_freeze h.base h.apart (its_at hk) (own_up (h.it hk) (fun b hb => h.low k _ b hk hb)) h.at_ e)
theorem st_freezeT {α : Type} [Enc α] {RT E : TypeId} {v : Value} {o : Nat → Bool} {rs : List Value} {rows : List (List α)} (k t : Nat) (h : St n F0 js Γ w0 a w) (hk : js[k]? = some (Item.tab RT E v o rs rows)) (e : lk Γ t = some (Pr.is v)) : St n F0 (js.eraseIdx k) ((t, isV rows) :: Γ) w0 a w :=
  h.drop k (at_freezeT h.base h.apart (its_at hk) (ownT_to (h.it hk) (fun b hb => h.low k _ b hk hb)) h.at_ e)
theorem st_freezeB {α : Type} [Enc α] {T : TypeId} {b : Nat} {x : α} (k t : Nat) (h : St n F0 js Γ w0 a w) (hk : js[k]? = some (Item.box T b x)) (e : lk Γ t = some (Pr.ptr b)) : St n F0 (js.eraseIdx k) ((t, isA x) :: Γ) w0 a w :=
  h.drop k (at_freezeB h.base h.apart (its_at hk) (ownB_to (h.it hk) (h.low k _ b hk (bx_iff.2 rfl))) h.at_ e)
/-- What they are at this moment, as facts on slots. -/
theorem st_tab {α : Type} [Enc α] {RT E : TypeId} {v : Value} {o : Nat → Bool} {rs : List Value} {rows : List (List α)} (k t : Nat) (h : St n F0 js Γ w0 a w) (hk : js[k]? = some (Item.tab RT E v o rs rows)) (e : lk Γ t = some (Pr.is v)) : St n F0 js ((t, isTab v rs rows) :: Γ) w0 a w :=
  ⟨at_tab (h.it hk) h.at_ e, h.apart, h.own, h.low, h.below, h.base⟩
theorem st_os {α : Type} [Enc α] {E : TypeId} {v : Value} {xs : List α} (k t : Nat) (h : St n F0 js Γ w0 a w) (hk : js[k]? = some (Item.sl E v xs)) (e : lk Γ t = some (Pr.is v)) : St n F0 js ((t, isOS v xs) :: Γ) w0 a w :=
  ⟨at_os (h.it hk) h.at_ e, h.apart, h.own, h.low, h.below, h.base⟩
theorem st_box {α : Type} [Enc α] {T : TypeId} {b : Nat} {x : α} (k t : Nat) (h : St n F0 js Γ w0 a w) (hk : js[k]? = some (Item.box T b x)) (e : lk Γ t = some (Pr.ptr b)) : St n F0 js ((t, Pr.boxed b x) :: Γ) w0 a w :=
  ⟨at_box (h.it hk) h.at_ e, h.apart, h.own, h.low, h.below, h.base⟩
theorem odTab {α : Type} [Enc α] {t : Nat} {v : Value} {rs : List Value} {rows : List (List α)} (h : lk Γ t = some (isTab v rs rows)) : Od Γ (.tmp t) (Pr.is v) := ⟨_, h, fun _ _ k => k.1⟩
theorem odBx {α : Type} [Enc α] {t b : Nat} {x : α} (h : lk Γ t = some (Pr.boxed b x)) : Od Γ (.tmp t) (Pr.ptr b) := ⟨_, h, fun _ _ k => k.1⟩

/-! ### regions -/
theorem st_reg (hm : P.follows .mixedOrders = true) {id : Nat} {draw : Bool} (hok : regionOK n ops = true) (h : St n F0 js Γ w0 a w)
    (hs : SeqK P ops ops.toList Γ fun Γ' => ∀ a' w', St n F0 js Γ' w0 a' w' → Q .normal a' w') : (Code.region id ops draw).wp P Q a w := by
  obtain ⟨Γ', h1, k⟩ := seqK_open hs
  exact wp_grow hm hok h1 h.at_ fun a' w' hb ha' => k a' w' (h.grow hb ha')
theorem st_float (hm : P.follows .mixedOrders = true) (ks : List Nat) {id : Nat} (hok : regionOK n ops = true) (hfl : floatOK ks ops = true) (h : St n F0 js Γ w0 a w)
    (hs : SeqF P ops (ops.toList.zip ks) Γ fun Γ' => ∀ c a' w', St n F0 js Γ' w0 a' w' → Mem.le c (vw (pf F0 (Its js)) w') → wpListS P ops (fun w'' => Mem.le c w''.cell?) (Q .normal) (pickT (ops.toList.zip ks)) a' w') : (Code.region id ops true).wp P Q a w := by
  have hs' : SeqF P ops (ops.toList.zip ks) Γ fun Γ' => ∀ a' w', Below w.heap.size w w' → Below w0.heap.size w0 w' → At n (pf F0 (Its js)) Γ' a' w' → wpListS P ops (fun w'' => Mem.le (vw (pf F0 (Its js)) w') w''.cell?) (Q .normal) (pickT (ops.toList.zip ks)) a' w' := by
    have mono : ∀ (l : List (Oper × Nat)) (Γ : List (Nat × Pr)) (K K' : List (Nat × Pr) → Prop), (∀ Γ, K Γ → K' Γ) → SeqF P ops l Γ K → SeqF P ops l Γ K' := by
      intro l
      induction l with
      | nil => intro Γ K K' hk h; exact hk _ h
      | cons x r ih =>
        obtain ⟨o, q⟩ := x
        intro Γ K K' hk h
        match q, h with
        | 0, h => obtain ⟨φ, h1, h2⟩ := h; exact ⟨φ, h1, ih _ _ _ hk h2⟩
        | 1, h => obtain ⟨φ, h1, h2⟩ := h; exact ⟨φ, h1, ih _ _ _ hk h2⟩
        | q + 2, h => exact ih Γ K K' hk h
    exact mono _ _ _ _ (fun Γ' hk a' w' hb _ hA => hk _ a' w' (h.grow hb hA) (Mem.le_refl _)) hs
  exact wp_float hm ks hok hfl h.at_ h.below hs'
theorem s_end {Q : Exit → Act → World → Prop} (h : Q .normal a w) : wpList P ops Q [] a w := h
/-- Behind one that writes. -/
theorem s_next {c : Mem} {os : List (Nat → Bool)} {R : Act → World → Prop} {r : List Oper} (hM : Mem.le c (vw (pf F0 os) w)) (h : wpListS P ops (fun w'' => Mem.le c w''.cell?) R r a w) :
    wpList P ops (fun e a' w' => e = .normal ∧ Mem.le c w'.cell? ∧ wpListS P ops (fun w'' => Mem.le c w''.cell?) R r a' w') [] a w := ⟨rfl, fun a v e => vw_cell (hM a v e), h⟩
theorem s_done {S : World → Prop} {R : Act → World → Prop} (h : R a w) : wpListS P ops S R [] a w := h

/-! ### operations one by one -/
variable {d : Nat} {t : TypeId} {ps : String} {af : Array Edge} {r : List Oper} {Δ : List (Nat × Pr)}
theorem s_c {op : Op} {g : Option (Nat × Bool)} {φ : Pr} (h : St n F0 js Γ w0 a w) (hs : StepG P ops ⟨some d, op, t, ps, af, g⟩ Γ φ) (hd : Nat.blt d n = true)
    (K : ∀ a' w', St n F0 js ((d, φ) :: Γ) w0 a' w' → Mem.le (vw (pf F0 (Its js)) w) (vw (pf F0 (Its js)) w') → wpList P ops Q r a' w') : wpList P ops Q (⟨some d, op, t, ps, af, g⟩ :: r) a w :=
  lc h.at_ h.below hs hd fun a' w' hb _ hA => K a' w' (h.grow hb hA) (vw_below hb)
theorem s_append {k : Nat} {x y : Operand} {T E : TypeId} {α : Type} [Enc α] {v : Value} {xs ys zs : List α} (hT : SlP P T E α) (hz : ZeroP P E α) (h : St n F0 js Γ w0 a w) (hk : js[k]? = some (Item.sl E v xs)) (hl : AllOd Γ Δ) (hC : AllC Δ)
    (hx : Od Δ x (Pr.is v)) (hy : Od Δ y (isV ys)) (happ : app xs ys = some zs) (hd : Nat.blt d n = true)
    (K : ∀ a' w' v', St n F0 (js.set k (Item.sl E v' zs)) ((d, Pr.is v') :: Δ) w0 a' w' → Mem.le (vw (pf F0 (Its js)) w) (vw (pf F0 (Its (js.set k (Item.sl E v' zs)))) w') → wpList P ops Q r a' w') :
    wpList P ops Q (⟨some d, .call { callee := .builtin .append, args := #[x, y], argTypes := #[T, T] }, t, ps, af, none⟩ :: r) a w := by
  have h' := h.weak hl
  refine l_append hT hz (its_at hk) h'.at_ h'.below h'.apart (own_up (h'.it hk) (fun b hb => h'.low k _ b hk hb)) hC hx hy happ hd fun a' w' v' hB hA hD hO hg hle ho hsz => ?_
  exact K a' w' v' (h'.change (it' := Item.sl E v' zs) hk hA hB hsz ho (own_dn hO) hg hle) (by rw [its_set]; exact hle)
theorem s_make {T E : TypeId} {x : Operand} {α : Type} [Enc α] {x0 : α} {q : Int} {xs : List α} (hT : SlP P T E α) (hz : ZeroP P E α) (hz0 : ZeroIs P E x0) (h1 : Nat.beq (Enc.size α) 1 = true) (h : St n F0 js Γ w0 a w) (hx : Od Γ x (isV q)) (hmk : mk q x0 = some xs) (hd : Nat.blt d n = true)
    (K : ∀ a' w' v, St n F0 (js ++ [Item.sl E v xs]) ((d, Pr.is v) :: Γ) w0 a' w' → Mem.le (vw (pf F0 (Its js)) w) (vw (pf F0 (Its (js ++ [Item.sl E v xs]))) w') → wpList P ops Q r a' w') :
    wpList P ops Q (⟨some d, .makeSlice T x x, t, ps, af, none⟩ :: r) a w :=
  l_make hT hz hz0 h1 h.at_ h.below h.apart hx hmk hd fun a' w' v hb _ hA _ hO hnew hle =>
    K a' w' v (h.push (it := Item.sl E v xs) hb hA hnew (own_dn hO) hle) (by rw [its_push]; exact hle)
theorem s_makeT {T RT E : TypeId} {x : Operand} {α : Type} [Enc α] {q : Int} {xs : List (List α)} (hT : SlP P T RT (List α)) (hz : ZeroP P RT (List α)) (hzv : (P.info? RT).map (·.zero) = some (some (.slice none 0 0))) (h : St n F0 js Γ w0 a w) (hx : Od Γ x (isV q)) (hmk : mk q ([] : List α) = some xs) (hd : Nat.blt d n = true)
    (K : ∀ a' w' v, St n F0 (js ++ [Item.tab RT E v (ob v) (List.replicate xs.length (.slice none 0 0)) xs]) ((d, Pr.is v) :: Γ) w0 a' w' → Mem.le (vw (pf F0 (Its js)) w) (vw (pf F0 (Its (js ++ [Item.tab RT E v (ob v) (List.replicate xs.length (.slice none 0 0)) xs]))) w') → wpList P ops Q r a' w') :
    wpList P ops Q (⟨some d, .makeSlice T x x, t, ps, af, none⟩ :: r) a w :=
  l_makeT (E := E) hT hz hzv h.at_ h.below h.apart hx hmk hd fun a' w' v hb _ hA _ hO hnew hle =>
    K a' w' v (h.push (it := Item.tab RT E v (ob v) (List.replicate xs.length (.slice none 0 0)) xs) hb hA hnew (ownT_to hO fun _ _ => Nat.zero_le _) hle) (by rw [its_push]; exact hle)
theorem s_alloc {T : TypeId} {α : Type} [Enc α] {x0 : α} (hz : ZeroIs P T x0) (h : St n F0 js Γ w0 a w) (hd : Nat.blt d n = true)
    (K : ∀ a' w' b, St n F0 (js ++ [Item.box T b x0]) ((d, Pr.ptr b) :: Γ) w0 a' w' → Mem.le (vw (pf F0 (Its js)) w) (vw (pf F0 (Its (js ++ [Item.box T b x0]))) w') → wpList P ops Q r a' w') :
    wpList P ops Q (⟨some d, .alloc T, t, ps, af, none⟩ :: r) a w :=
  l_alloc hz h.at_ h.below h.apart hd fun a' w' b hb _ hA _ hO hnew hle =>
    K a' w' b (h.push (it := Item.box T b x0) hb hA hnew (ownB_to hO (Nat.zero_le _)) hle) (by rw [its_push]; exact hle)
theorem s_allocStore {T : TypeId} {x : Operand} {α : Type} [Enc α] {t' : TypeId} {ps' : String} {af' : Array Edge} {e : α} (hz : ZeroP P T α) (h : St n F0 js Γ w0 a w) (hx : Od Γ x (isV e)) (hne : ∀ k, x = .tmp k → Nat.beq d k = false) (hd : Nat.blt d n = true)
    (K : ∀ a' w', St n F0 js ((d, isA e) :: Γ) w0 a' w' → Mem.le (vw (pf F0 (Its js)) w) (vw (pf F0 (Its js)) w') → wpList P ops Q r a' w') :
    wpList P ops Q (⟨some d, .alloc T, t, ps, af, none⟩ :: ⟨none, .store T (.tmp d) x, t', ps', af', none⟩ :: r) a w :=
  l_allocStore hz hx hne h.at_ h.below hd fun a' w' hb _ hA => K a' w' (h.grow hb hA) (vw_below hb)
theorem s_storeB {k p b : Nat} {T : TypeId} {y : Operand} {α : Type} [Enc α] {x z : α} (hT : TyP P T α) (h : St n F0 js Γ w0 a w) (hk : js[k]? = some (Item.box T b x)) (hl : AllOd Γ Δ) (hC : AllC Δ) (hp : lk Δ p = some (Pr.ptr b)) (hy : Od Δ y (isV z))
    (K : ∀ w', St n F0 (js.set k (Item.box T b z)) Δ w0 a w' → Mem.le (vw (pf F0 (Its js)) w) (vw (pf F0 (Its (js.set k (Item.box T b z)))) w') → wpList P ops Q r a w') :
    wpList P ops Q (⟨none, .store T (.tmp p) y, t, ps, af, none⟩ :: r) a w := by
  have h' := h.weak hl
  have hs := set_self (its_at hk)
  refine l_store hT (its_at hk) h'.at_ h'.below (ownB_to (h'.it hk) (h'.low k _ b hk (bx_iff.2 rfl))) hC hp hy fun w' hB hA hO hg hle hsz => ?_
  refine K w' (h'.change (it' := Item.box T b z) hk (hs.symm ▸ hA) hB hsz (fun q hq => .inl hq) (hs.symm ▸ ownB_to hO (Nat.zero_le _)) hg (hs.symm ▸ hle)) ?_
  rw [its_set]
  exact hs.symm ▸ hle
theorem s_storeTA {k p : Nat} {i j : Int} {RT E : TypeId} {y : Operand} {α : Type} [Enc α] {z : α} {rs : List Value} {rows rows' : List (List α)} {v : Value} {o : Nat → Bool} (hT : TyP P E α) (h : St n F0 js Γ w0 a w) (hk : js[k]? = some (Item.tab RT E v o rs rows)) (hl : AllOd Γ Δ) (hC : AllC Δ)
    (hp : Od Γ (.tmp p) (isHA α rs i.toNat j.toNat)) (hy : Od Γ y (isV z)) (hset : set2 rows i j z = some rows')
    (K : ∀ w', St n F0 (js.set k (Item.tab RT E v o rs rows')) Δ w0 a w' → Mem.le (vw (pf F0 (Its js)) w) (vw (pf F0 (Its (js.set k (Item.tab RT E v o rs rows')))) w') → wpList P ops Q r a w') :
    wpList P ops Q (⟨none, .store E (.tmp p) y, t, ps, af, none⟩ :: r) a w := by
  have hs := set_self (its_at hk)
  refine l_storeTA hT (its_at hk) h.at_ h.below (ownT_to (h.it hk) (fun b hb => h.low k _ b hk hb)) hp hy hset hl hC fun w' hB hA hO hg hsz hle => ?_
  refine K w' (h.change (it' := Item.tab RT E v o rs rows') hk (hs.symm ▸ hA) hB hsz (fun q hq => .inl hq) (hs.symm ▸ ownT_to hO (fun _ _ => Nat.zero_le _)) hg (hs.symm ▸ hle)) ?_
  rw [its_set]
  exact hs.symm ▸ hle
theorem s_storeEA {k p : Nat} {j : Int} {E : TypeId} {y : Operand} {α : Type} [Enc α] {z : α} {xs xs' : List α} {v : Value} (hT : TyP P E α) (h : St n F0 js Γ w0 a w) (hk : js[k]? = some (Item.sl E v xs)) (hl : AllOd Γ Δ) (hC : AllC Δ)
    (hp : Od Γ (.tmp p) (isEP α v j.toNat)) (hy : Od Γ y (isV z)) (hset : set1 xs j z = some xs')
    (K : ∀ w', St n F0 (js.set k (Item.sl E v xs')) Δ w0 a w' → Mem.le (vw (pf F0 (Its js)) w) (vw (pf F0 (Its (js.set k (Item.sl E v xs')))) w') → wpList P ops Q r a w') :
    wpList P ops Q (⟨none, .store E (.tmp p) y, t, ps, af, none⟩ :: r) a w := by
  have hs := set_self (its_at hk)
  refine l_storeEA hT (its_at hk) h.at_ h.below (own_up (h.it hk) (fun b hb => h.low k _ b hk hb)) hp hy hset hl hC fun w' hB hA hO hg hsz hle => ?_
  refine K w' (h.change (it' := Item.sl E v xs') hk (hs.symm ▸ hA) hB hsz (fun q hq => .inl hq) (hs.symm ▸ own_dn hO) hg (hs.symm ▸ hle)) ?_
  rw [its_set]
  exact hs.symm ▸ hle
/-- The same blocks, said otherwise. -/
theorem St.swap {k : Nat} {it it' : Item} (h : St n F0 js Γ w0 a w) (hk : js[k]? = some it) (ho : it'.o = it.o) (hp : it.p (vw (pf F0 (Its js)) w) w → it'.p (vw (pf F0 (Its js)) w) w) : St n F0 (js.set k it') Γ w0 a w := by
  have hs : (Its js).set k it'.o = Its js := by rw [ho]; exact set_self (its_at hk)
  exact h.change hk (by rw [hs]; exact h.at_) h.below (Nat.le_refl _) (fun b hb => .inl (by rw [ho] at hb; exact hb)) (by rw [hs]; exact hp (h.it hk)) (fun _ _ _ => rfl) (by rw [hs]; exact Mem.le_refl _)
theorem st_hole {α : Type} [Enc α] {RT E : TypeId} {v : Value} {o : Nat → Bool} {rs : List Value} {rows : List (List α)} (k i : Nat) (h : St n F0 js Γ w0 a w) (hk : js[k]? = some (Item.tab RT E v o rs rows)) : St n F0 (js.set k (Item.hole RT E v o i rs rows)) Γ w0 a w :=
  h.swap hk rfl (ownH_of i)
theorem ownH_to {α : Type} [Enc α] {RT E : TypeId} {B B' i : Nat} {c : Mem} {w : World} {v : Value} {o : Nat → Bool} {rs : List Value} {rows : List (List α)} (h : OwnH RT E B c w v o i rs rows) (hb : ∀ k, o k = true → B' ≤ k) : OwnH RT E B' c w v o i rs rows := by
  obtain ⟨h1, h2, h3, h4, h5, h6⟩ := h.out
  refine ⟨⟨ownsRow_to h1 (fun k hk => hb k (h5 k hk)), fun i u r hi hu hr => ?_, h3, h4, h5, h6⟩, fun b hb' => ⟨hb b hb', (h.lt b hb').2⟩⟩
  obtain ⟨cells, hc1, hc2⟩ := h2 i u r hi hu hr
  exact ⟨cells, ownsRow_to hc1 (fun k hk => hb k (h6 i u k hi hu hk)), hc2⟩
/-- Row i taken out. -/
theorem st_take {α : Type} [Enc α] {RT E : TypeId} {v u : Value} {o : Nat → Bool} {rs : List Value} {rows : List (List α)} {r : List α} (k i : Nat) (h : St n F0 js Γ w0 a w) (hk : js[k]? = some (Item.tab RT E v o rs rows)) (hu : rs[i]? = some u) (hr : rows[i]? = some r) :
    St n F0 (js.set k (Item.hole RT E v (fun b => o b && !ob u b) i rs rows) ++ [Item.sl E u r]) Γ w0 a w := by
  obtain ⟨h1, h2⟩ := ownH_take (h.it hk) hu hr
  have hkl : k < js.length := (List.getElem?_eq_some_iff.1 hk).1
  have hou : ∀ b, ob u b = true → o b = true := by
    obtain ⟨_, _, _, _, _, h6⟩ := (h.it hk : OwnT RT E 0 _ w v o rs rows).out
    exact fun b hb => h6 i u b hu (ob_iff.1 hb)
  have hpf : pf F0 (Its (js.set k (Item.hole RT E v (fun b => o b && !ob u b) i rs rows) ++ [Item.sl E u r])) = pf F0 (Its js) := by
    funext b
    apply Bool.eq_iff_iff.2
    rw [its_push, its_set, pf_iff, pf_iff]
    refine or_congr Iff.rfl ⟨fun ⟨j, x, hj, hb⟩ => ?_, fun ⟨j, x, hj, hb⟩ => ?_⟩
    · rw [List.getElem?_append] at hj
      split at hj
      · rw [List.getElem?_set] at hj
        split at hj
        · split at hj
          · cases hj; exact ⟨k, o, its_at hk, by simp [Item.hole] at hb; exact hb.1⟩
          · cases hj
        · exact ⟨j, x, hj, hb⟩
      · have : x = ob u := by
          cases hq : j - ((Its js).set k (Item.hole RT E v (fun b => o b && !ob u b) i rs rows).o).length with
          | zero => rw [hq] at hj; simpa [Item.sl] using hj.symm
          | succ p => rw [hq] at hj; simp at hj
        subst this
        exact ⟨k, o, its_at hk, hou b hb⟩
    · by_cases hjk : k = j
      · subst hjk
        rw [its_at hk] at hj
        cases hj
        cases hq : ob u b with
        | true => exact ⟨js.length, ob u, by rw [List.getElem?_append_right (by simp)]; simp [Item.sl], hq⟩
        | false =>
          refine ⟨k, fun b => o b && !ob u b, by rw [List.getElem?_append_left (by simpa using hkl), List.getElem?_set, if_pos rfl, if_pos (by simpa using hkl)]; rfl, ?_⟩
          have hb : o b = true := hb
          simp [hb, hq]
      · have hjl := (List.getElem?_eq_some_iff.1 hj).1
        exact ⟨j, x, by rw [List.getElem?_append_left (by simpa using hjl), List.getElem?_set, if_neg hjk]; exact hj, hb⟩
  have hcase : ∀ (j : Nat) (x : Item), (js.set k (Item.hole RT E v (fun b => o b && !ob u b) i rs rows) ++ [Item.sl E u r])[j]? = some x → (j ≠ k ∧ js[j]? = some x) ∨ (j = k ∧ x = Item.hole RT E v (fun b => o b && !ob u b) i rs rows) ∨ (j = js.length ∧ x = Item.sl E u r) := by
    intro j x hj
    rw [List.getElem?_append] at hj
    split at hj
    · rw [List.getElem?_set] at hj
      split at hj
      · rename_i e
        cases hj; exact .inr (.inl ⟨e.symm, rfl⟩)
      · rename_i e; exact .inl ⟨fun e' => e e'.symm, hj⟩
    · rename_i hl
      simp only [List.length_set] at hj hl
      cases hq : j - js.length with
      | zero => rw [hq] at hj; exact .inr (.inr ⟨by omega, by simpa using hj.symm⟩)
      | succ p => rw [hq] at hj; simp at hj
  refine ⟨by rw [hpf]; exact h.at_, ?_, fun j x hj => ?_, fun j x b hj hb => ?_, h.below, h.base⟩
  · intro j j' x y hj hj' hjj b hb
    obtain ⟨x', hx', rfl⟩ : ∃ x', (js.set k (Item.hole RT E v (fun b => o b && !ob u b) i rs rows) ++ [Item.sl E u r])[j]? = some x' ∧ x'.o = x := its_get hj
    obtain ⟨y', hy', rfl⟩ : ∃ y', (js.set k (Item.hole RT E v (fun b => o b && !ob u b) i rs rows) ++ [Item.sl E u r])[j']? = some y' ∧ y'.o = y := its_get hj'
    have hin : ∀ b, (Item.hole RT E v (fun b => o b && !ob u b) i rs rows).o b = true → o b = true := fun b hb => by simp [Item.hole] at hb; exact hb.1
    rcases hcase j x' hx' with ⟨h3, h4⟩ | ⟨h3, rfl⟩ | ⟨h3, rfl⟩
    · rcases hcase j' y' hy' with ⟨h5, h6⟩ | ⟨h5, rfl⟩ | ⟨h5, rfl⟩
      · exact h.apart j j' _ _ (its_at h4) (its_at h6) hjj b hb
      · cases hq : (Item.hole RT E v (fun b => o b && !ob u b) i rs rows).o b with
        | false => rfl
        | true =>
          have := h.apart j k _ _ (its_at h4) (its_at hk) h3 b hb
          have := hin b hq
          simp_all [Item.tab]
      · cases hq : (Item.sl E u r).o b with
        | false => rfl
        | true =>
          have h8 := h.apart j k _ _ (its_at h4) (its_at hk) h3 b hb
          have h9 := hou b hq
          have h8 : o b = false := h8
          rw [h9] at h8; cases h8
    · rcases hcase j' y' hy' with ⟨h5, h6⟩ | ⟨h5, rfl⟩ | ⟨h5, rfl⟩
      · exact h.apart k j' _ _ (its_at hk) (its_at h6) (fun e => h5 e.symm) b (hin b hb)
      · omega
      · have hb : (o b && !ob u b) = true := hb
        show ob u b = false
        simp at hb
        exact hb.2
    · rcases hcase j' y' hy' with ⟨h5, h6⟩ | ⟨h5, rfl⟩ | ⟨h5, rfl⟩
      · exact h.apart k j' _ _ (its_at hk) (its_at h6) (fun e => h5 e.symm) b (hou b hb)
      · show (o b && !ob u b) = false
        have hb : ob u b = true := hb
        simp [hb]
      · omega
  · rw [hpf]
    rcases hcase j x hj with ⟨_, h4⟩ | ⟨_, rfl⟩ | ⟨_, rfl⟩
    · exact h.own j x h4
    · exact h1
    · exact h2
  · rcases hcase j x hj with ⟨_, h4⟩ | ⟨_, rfl⟩ | ⟨_, rfl⟩
    · exact h.low j x b h4 hb
    · exact h.low k _ b hk (show o b = true by have hb : (o b && !ob u b) = true := hb; simp at hb; exact hb.1)
    · exact h.low k _ b hk (hou b hb)
/-- 't[i] = u' for an own slice: it is the table's then. -/
theorem s_storeH {k k2 p : Nat} {i : Int} {RT E : TypeId} {y : Operand} {α : Type} [Enc α] {z : List α} {rs : List Value} {rows rows' : List (List α)} {v u : Value} {o : Nat → Bool} (hT : P.underlying RT = some (.slice E)) (hR : (P.info? RT).map (·.size) = some 1) (h : St n F0 js Γ w0 a w)
    (hk : js[k]? = some (Item.hole RT E v o i.toNat rs rows)) (hk2 : js[k2]? = some (Item.sl E u z)) (hne : Nat.beq k k2 = false) (hl : AllOd Γ Δ) (hC : AllC Δ) (hp : Od Γ (.tmp p) (isTP v i.toNat)) (hy : Od Γ y (Pr.is u)) (hset : set1 rows i z = some rows')
    (K : ∀ w' o', St n F0 ((js.set k (Item.tab RT E v o' (rs.set i.toNat u) rows')).eraseIdx k2) Δ w0 a w' → Mem.le (vw (pf F0 (Its js)) w) (vw (pf F0 (Its ((js.set k (Item.tab RT E v o' (rs.set i.toNat u) rows')).eraseIdx k2))) w') → wpList P ops Q r a w') :
    wpList P ops Q (⟨none, .store RT (.tmp p) y, t, ps, af, none⟩ :: r) a w := by
  refine l_storeTR hT hR (its_at hk) (its_at hk2) hne h.at_ h.below h.apart (ownH_to (h.it hk) (fun b hb => h.low k _ b hk hb)) (own_up (h.it hk2) (fun b hb => h.low k2 _ b hk2 hb)) hp hy hset hl hC fun w' o' ho' hB hA hD hO hg hsz hle => ?_
  have hits : Its ((js.set k (Item.tab RT E v o' (rs.set i.toNat u) rows')).eraseIdx k2) = ((Its js).set k o').eraseIdx k2 := by rw [its_erase, its_set]; rfl
  have hcase : ∀ (j : Nat) (x : Item), ((js.set k (Item.tab RT E v o' (rs.set i.toNat u) rows')).eraseIdx k2)[j]? = some x → x = Item.tab RT E v o' (rs.set i.toNat u) rows' ∨ ∃ j', j' ≠ k ∧ j' ≠ k2 ∧ js[j']? = some x := by
    intro j x hj
    have fin : ∀ j', j' ≠ k2 → (js.set k (Item.tab RT E v o' (rs.set i.toNat u) rows'))[j']? = some x → x = Item.tab RT E v o' (rs.set i.toNat u) rows' ∨ ∃ j', j' ≠ k ∧ j' ≠ k2 ∧ js[j']? = some x := by
      intro j' hn hj'
      rw [List.getElem?_set] at hj'
      split at hj'
      · split at hj'
        · cases hj'; exact .inl rfl
        · cases hj'
      · rename_i e; exact .inr ⟨j', fun e' => e e'.symm, hn, hj'⟩
    rw [List.getElem?_eraseIdx] at hj
    split at hj
    · exact fin j (by omega) hj
    · exact fin (j + 1) (by omega) hj
  refine K w' o' ⟨by rw [hits]; exact hA, by rw [hits]; exact hD, fun j x hj => ?_, fun j x b hj hb => ?_, hB, h.base⟩ (by rw [hits]; exact hle)
  · rw [hits]
    rcases hcase j x hj with rfl | ⟨j', hjk, _, hj'⟩
    · exact ownT_to hO fun _ _ => Nat.zero_le _
    · exact x.kept (h.own j' x hj') hle hsz fun b hb => hg b (h.lt hj' hb) (h.apart j' k _ _ (its_at hj') (its_at hk) hjk b hb)
  · rcases hcase j x hj with rfl | ⟨j', _, _, hj'⟩
    · rcases ho' b hb with h1 | h1
      · exact h.low k _ b hk h1
      · exact h.low k2 _ b hk2 h1
    · exact h.low j' x b hj' hb
end
end Go.Proofs.Ytkbilbeaedocjaa.Wh
