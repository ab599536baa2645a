/-
  What is proved: the state of a walk: facts on slots, and the things that the call owns; what each operation does to it.
  rows appended to tables; calls that return what is the caller's own.
  whole functions by states; calls that return what is the caller's own.
  facts on further slots of what is let go; results that lie in cells; operations that may come at any time.
  arrays; places in own slices as addresses; callees that write to an own slice.
  tests against nil; empty slices of the call's own.
  '==' and '!=' on structs and arrays.
  what an argument is that a row's statement reads; rows that say 'true, and all reads as it did'.
-/
import Derived.Test.YtnnhmgcigoiceaaGreatDoorBaseC
import Derived.Test.YtnnhmgcigoiceaaGreatDoorBaseB
import Derived.Laws.Cover3
import Derived.Laws.StructEq
import Derived.ChangeKeysEq
import Derived.ProofKit
import Derived.OpenShut
import Derived.ChangeOld
namespace Go.Proofs.YtnnhmgcigoiceaaGreatDoor.Wh
open Go Go.RowKit

/-- A thing of the call's own: its blocks, and what is so of it. -/
structure Item where
  o : Nat → Bool
  p : Mem → World → Prop
  kept : ∀ {c c' : Mem} {w w' : World}, p c w → Mem.le c c' → w.heap.size ≤ w'.heap.size → (∀ b, o b = true → w'.heap[b]? = w.heap[b]?) → p c' w'
def Item.sl {α : Type} [Enc α] (E : TypeId) (v : Value) (xs : List α) : Item := ⟨ob v, fun c w => Own E 0 c w v xs, fun h hc _ hb => own_kept h hc hb⟩
def Item.tab {α : Type} [Enc α] (RT E : TypeId) (v : Value) (o : Nat → Bool) (rs : List Value) (rows : List (List α)) : Item := ⟨o, fun c w => OwnT RT E 0 c w v o rs rows, fun h hc hs hb => ownT_kept h hc hs hb⟩
def Item.box {α : Type} [Enc α] (T : TypeId) (b : Nat) (x : α) : Item := ⟨bx b, fun c w => OwnB T 0 c w b x, fun h hc _ hb => ownB_kept h hc (hb b (bx_iff.2 rfl))⟩
abbrev Its (js : List Item) : List (Nat → Bool) := js.map Item.o
structure St (n : Nat) (F0 : Nat → Bool) (js : List Item) (Γ : List (Nat × Pr)) (w0 : World) (a : Act) (w : World) : Prop where
  at_ : At n (pf F0 (Its js)) Γ a w
  apart : Apart (Its js)
  own : ∀ (k : Nat) (it : Item), js[k]? = some it → it.p (vw (pf F0 (Its js)) w) w
  low : ∀ (k : Nat) (it : Item) (b : Nat), js[k]? = some it → it.o b = true → w0.heap.size ≤ b
  below : Below w0.heap.size w0 w
  base : ∀ b, F0 b = true → b < w0.heap.size
theorem its_at {js : List Item} {k : Nat} {it : Item} (h : js[k]? = some it) : (Its js)[k]? = some it.o := by simp [Its, h]
theorem its_get {js : List Item} {k : Nat} {o : Nat → Bool} (h : (Its js)[k]? = some o) : ∃ it, js[k]? = some it ∧ it.o = o := by
  rw [show (Its js)[k]? = (js[k]?).map Item.o from List.getElem?_map] at h
  simpa using h
theorem its_set {js : List Item} {k : Nat} {it : Item} : Its (js.set k it) = (Its js).set k it.o := by simp [Its, List.map_set]
theorem its_erase {js : List Item} {k : Nat} : Its (js.eraseIdx k) = (Its js).eraseIdx k := by
  apply List.ext_getElem?
  intro j
  simp only [Its, List.getElem?_map, List.getElem?_eraseIdx]
  split <;> simp
theorem its_push {js : List Item} {it : Item} : Its (js ++ [it]) = Its js ++ [it.o] := by simp [Its]
theorem own_up {α : Type} [Enc α] {E B : Nat} {c : Mem} {w : World} {v : Value} {xs : List α} (h : Own E 0 c w v xs) (hB : ∀ b, ob v b = true → B ≤ b) : Own E B c w v xs := by
  obtain ⟨cells, hr, hl⟩ := h.row
  refine ⟨cells, ⟨hr.1, ?_⟩, hl⟩
  rcases hr.2 with h1 | ⟨g, cap, cur, rfl, h2, h3, h4⟩
  · exact .inl h1
  · exact .inr ⟨g, cap, cur, rfl, hB g (ob_iff.2 rfl), h3, h4⟩
theorem own_dn {α : Type} [Enc α] {E B : Nat} {c : Mem} {w : World} {v : Value} {xs : List α} (h : Own E B c w v xs) : Own E 0 c w v xs := by
  obtain ⟨cells, hr, hl⟩ := h.row
  refine ⟨cells, ⟨hr.1, ?_⟩, hl⟩
  rcases hr.2 with h1 | ⟨g, cap, cur, rfl, h2, h3, h4⟩
  · exact .inl h1
  · exact .inr ⟨g, cap, cur, rfl, Nat.zero_le _, h3, h4⟩
theorem ownB_to {α : Type} [Enc α] {T : TypeId} {B B' : Nat} {c : Mem} {w : World} {b : Nat} {x : α} (h : OwnB T B c w b x) (hb : B' ≤ b) : OwnB T B' c w b x := ⟨h.out, hb⟩
section
variable {P : Program} {Γ : List (Nat × Pr)} {n : Nat} {F0 : Nat → Bool} {js : List Item} {w0 w : World} {a : Act} {ops : Array Oper} {Q : Exit → Act → World → Prop}
theorem st_start (hF : ∀ b, F0 b = true → b < w0.heap.size) (h : At n F0 Γ a w0) : St n F0 [] Γ w0 a w0 :=
  ⟨at_pf h, apart_nil, fun k it h => by simp at h, fun k it b h => by simp at h, Below.refl _ _, hF⟩
theorem St.lt (h : St n F0 js Γ w0 a w) {k : Nat} {it : Item} (hk : js[k]? = some it) {b : Nat} (hb : it.o b = true) : b < w.heap.size := h.at_.own b (pf_iff.2 (.inr ⟨k, it.o, its_at hk, hb⟩))
theorem St.weak {Δ : List (Nat × Pr)} (h : St n F0 js Γ w0 a w) (hl : AllOd Γ Δ) : St n F0 js Δ w0 a w := ⟨h.at_.weak hl, h.apart, h.own, h.low, h.below, h.base⟩
/-- Something grew. -/
theorem St.grow {Γ' : List (Nat × Pr)} {a' : Act} {w' : World} (h : St n F0 js Γ w0 a w) (hb : Below w.heap.size w w') (hA : At n (pf F0 (Its js)) Γ' a' w') : St n F0 js Γ' w0 a' w' :=
  ⟨hA, h.apart, fun k it hk => it.kept (h.own k it hk) (vw_below hb) hb.size (fun b hb' => hb.block b (h.lt hk hb')), h.low, below_trans' h.below hb, h.base⟩
/-- One thing turned. -/
theorem St.change {k : Nat} {it it' : Item} {Γ' : List (Nat × Pr)} {a' : Act} {w' : World} (h : St n F0 js Γ w0 a w) (hk : js[k]? = some it) (hA : At n (pf F0 ((Its js).set k it'.o)) Γ' a' w') (hB : Below w0.heap.size w0 w') (hsz : w.heap.size ≤ w'.heap.size)
    (ho : ∀ b, it'.o b = true → it.o b = true ∨ w.heap.size ≤ b) (hp : it'.p (vw (pf F0 ((Its js).set k it'.o)) w') w') (hblk : ∀ b, b < w.heap.size → it.o b = false → w'.heap[b]? = w.heap[b]?) (hle : Mem.le (vw (pf F0 (Its js)) w) (vw (pf F0 ((Its js).set k it'.o)) w')) :
    St n F0 (js.set k it') Γ' w0 a' w' := by
  have hkl : k < js.length := (List.getElem?_eq_some_iff.1 hk).1
  refine ⟨by rw [its_set]; exact hA, by rw [its_set]; exact apart_set h.apart (its_at hk) h.at_.own ho, fun j u hj => ?_, fun j u b hj hb => ?_, hB, h.base⟩
  · rw [its_set]
    rw [List.getElem?_set] at hj
    rw [show (if k < js.length then some it' else none) = some it' from if_pos hkl] at hj
    split at hj
    · rename_i e; subst e
      cases hj; exact hp
    · rename_i e
      exact u.kept (h.own j u hj) hle hsz (fun b hb => hblk b (h.lt hj hb) (h.apart j k _ _ (its_at hj) (its_at hk) (fun e' => e e'.symm) b hb))
  · rw [List.getElem?_set] at hj
    rw [show (if k < js.length then some it' else none) = some it' from if_pos hkl] at hj
    split at hj
    · rename_i e; subst e
      cases hj
      rcases ho b hb with h1 | h1
      · exact h.low k it b hk h1
      · exact Nat.le_trans h.below.size h1
    · exact h.low j u b hj hb
/-- Something new. -/
theorem St.push {it : Item} {Γ' : List (Nat × Pr)} {a' : Act} {w' : World} (h : St n F0 js Γ w0 a w) (hb : Below w.heap.size w w') (hA : At n (pf F0 (Its js ++ [it.o])) Γ' a' w') (ho : ∀ b, it.o b = true → w.heap.size ≤ b) (hp : it.p (vw (pf F0 (Its js ++ [it.o])) w') w')
    (hle : Mem.le (vw (pf F0 (Its js)) w) (vw (pf F0 (Its js ++ [it.o])) w')) : St n F0 (js ++ [it]) Γ' w0 a' w' := by
  have hcase : ∀ (j : Nat) (u : Item), (js ++ [it])[j]? = some u → js[j]? = some u ∨ u = it := by
    intro j u hj
    rw [List.getElem?_append] at hj
    split at hj
    · exact .inl hj
    · cases hq : j - js.length with
      | zero => rw [hq] at hj; exact .inr (by simpa using hj.symm)
      | succ q => rw [hq] at hj; simp at hj
  refine ⟨by rw [its_push]; exact hA, by rw [its_push]; exact apart_push h.apart h.at_.own ho, fun j u hj => ?_, fun j u b hj hb' => ?_, below_trans' h.below hb, h.base⟩
  · rw [its_push]
    rcases hcase j u hj with hj | rfl
    · exact u.kept (h.own j u hj) hle hb.size (fun b hb' => hb.block b (h.lt hj hb'))
    · exact hp
  · rcases hcase j u hj with hj | rfl
    · exact h.low j u b hj hb'
    · exact Nat.le_trans h.below.size (ho b hb')
/-- Something is let go. -/
theorem St.drop (k : Nat) {Γ' : List (Nat × Pr)} (h : St n F0 js Γ w0 a w) (hA : At n (pf F0 ((Its js).eraseIdx k)) Γ' a w) : St n F0 (js.eraseIdx k) Γ' w0 a w := by
  have hcase : ∀ (j : Nat) (u : Item), (js.eraseIdx k)[j]? = some u → ∃ i : Nat, js[i]? = some u := by
    intro j u hj
    rw [List.getElem?_eraseIdx] at hj
    split at hj
    · exact ⟨j, hj⟩
    · exact ⟨j + 1, hj⟩
  refine ⟨by rw [its_erase]; exact hA, by rw [its_erase]; exact apart_erase h.apart k, fun j u hj => ?_, fun j u b hj hb => ?_, h.below, h.base⟩
  · rw [its_erase]
    obtain ⟨i, hi⟩ := hcase j u hj
    exact u.kept (h.own i u hi) (vw_less fun _ hb => pf_erase hb) (Nat.le_refl _) (fun _ _ => rfl)
  · obtain ⟨i, hi⟩ := hcase j u hj
    exact h.low i u b hi hb
theorem st_drop (k : Nat) (h : St n F0 js Γ w0 a w) : St n F0 (js.eraseIdx k) Γ w0 a w := h.drop k (at_drop k h.at_)
theorem st_nil {α : Type} [Enc α] (E : TypeId) (h : St n F0 js Γ w0 a w) : St n F0 (js ++ [Item.sl E (.slice none 0 0) ([] : List α)]) Γ w0 a w :=
  h.push (Below.refl _ _) (at_own_nil h.at_) (fun b hb => by simp [Item.sl, ob, Value.ownBlock] at hb) own_nil (by
    have : pf F0 (Its js ++ [(Item.sl E (.slice none 0 0) ([] : List α)).o]) = pf F0 (Its js) := pf_push_nil
    rw [this]; exact Mem.le_refl _)
theorem St.it {k : Nat} {it : Item} (h : St n F0 js Γ w0 a w) (hk : js[k]? = some it) : it.p (vw (pf F0 (Its js)) w) w := h.own k it hk
theorem st_freeze {α : Type} [Enc α] {E : TypeId} {v : Value} {xs : List α} (k t : Nat) (h : St n F0 js Γ w0 a w) (hk : js[k]? = some (Item.sl E v xs)) (e : lk Γ t = some (Pr.is v)) : St n F0 (js.eraseIdx k) ((t, isV xs) :: Γ) w0 a w :=
  h.drop k (at_freeze h.base h.apart (its_at hk) (own_up (h.it hk) (fun b hb => h.low k _ b hk hb)) h.at_ e)
theorem st_freezeB {α : Type} [Enc α] {T : TypeId} {b : Nat} {x : α} (k t : Nat) (h : St n F0 js Γ w0 a w) (hk : js[k]? = some (Item.box T b x)) (e : lk Γ t = some (Pr.ptr b)) : St n F0 (js.eraseIdx k) ((t, isA x) :: Γ) w0 a w :=
  h.drop k (at_freezeB h.base h.apart (its_at hk) (ownB_to (h.it hk) (h.low k _ b hk (bx_iff.2 rfl))) h.at_ e)
theorem st_os {α : Type} [Enc α] {E : TypeId} {v : Value} {xs : List α} (k t : Nat) (h : St n F0 js Γ w0 a w) (hk : js[k]? = some (Item.sl E v xs)) (e : lk Γ t = some (Pr.is v)) : St n F0 js ((t, isOS v xs) :: Γ) w0 a w :=
  ⟨at_os (h.it hk) h.at_ e, h.apart, h.own, h.low, h.below, h.base⟩
theorem st_box {α : Type} [Enc α] {T : TypeId} {b : Nat} {x : α} (k t : Nat) (h : St n F0 js Γ w0 a w) (hk : js[k]? = some (Item.box T b x)) (e : lk Γ t = some (Pr.ptr b)) : St n F0 js ((t, Pr.boxed b x) :: Γ) w0 a w :=
  ⟨at_box (h.it hk) h.at_ e, h.apart, h.own, h.low, h.below, h.base⟩
theorem odBx {α : Type} [Enc α] {t b : Nat} {x : α} (h : lk Γ t = some (Pr.boxed b x)) : Od Γ (.tmp t) (Pr.ptr b) := ⟨_, h, fun _ _ k => k.1⟩

/-! ### regions -/
theorem st_reg (hm : P.follows .mixedOrders = true) {id : Nat} {draw : Bool} (hok : regionOK n ops = true) (h : St n F0 js Γ w0 a w)
    (hs : SeqK P ops ops.toList Γ fun Γ' => ∀ a' w', St n F0 js Γ' w0 a' w' → Q .normal a' w') : (Code.region id ops draw).wp P Q a w := by
  obtain ⟨Γ', h1, k⟩ := seqK_open hs
  exact wp_grow hm hok h1 h.at_ fun a' w' hb ha' => k a' w' (h.grow hb ha')
theorem st_float (hm : P.follows .mixedOrders = true) (ks : List Nat) {id : Nat} (hok : regionOK n ops = true) (hfl : floatOK ks ops = true) (h : St n F0 js Γ w0 a w)
    (hs : SeqF P ops (ops.toList.zip ks) Γ fun Γ' => ∀ c a' w', St n F0 js Γ' w0 a' w' → Mem.le c (vw (pf F0 (Its js)) w') → wpListS P ops (fun w'' => Mem.le c w''.cell?) (Q .normal) (pickT (ops.toList.zip ks)) a' w') : (Code.region id ops true).wp P Q a w := by
  have hs' : SeqF P ops (ops.toList.zip ks) Γ fun Γ' => ∀ a' w', Below w.heap.size w w' → Below w0.heap.size w0 w' → At n (pf F0 (Its js)) Γ' a' w' → wpListS P ops (fun w'' => Mem.le (vw (pf F0 (Its js)) w') w''.cell?) (Q .normal) (pickT (ops.toList.zip ks)) a' w' := by
    have mono : ∀ (l : List (Oper × Nat)) (Γ : List (Nat × Pr)) (K K' : List (Nat × Pr) → Prop), (∀ Γ, K Γ → K' Γ) → SeqF P ops l Γ K → SeqF P ops l Γ K' := by
      intro l
      induction l with
      | nil => intro Γ K K' hk h; exact hk _ h
      | cons x r ih =>
        obtain ⟨o, q⟩ := x
        intro Γ K K' hk h
        match q, h with
        | 0, h => obtain ⟨φ, h1, h2⟩ := h; exact ⟨φ, h1, ih _ _ _ hk h2⟩
        | 1, h => obtain ⟨φ, h1, h2⟩ := h; exact ⟨φ, h1, ih _ _ _ hk h2⟩
        | q + 2, h => exact ih Γ K K' hk h
    exact mono _ _ _ _ (fun Γ' hk a' w' hb _ hA => hk _ a' w' (h.grow hb hA) (Mem.le_refl _)) hs
  exact wp_float hm ks hok hfl h.at_ h.below hs'
/-- Behind one that writes. -/
theorem s_next {c : Mem} {os : List (Nat → Bool)} {R : Act → World → Prop} {r : List Oper} (hM : Mem.le c (vw (pf F0 os) w)) (h : wpListS P ops (fun w'' => Mem.le c w''.cell?) R r a w) :
    wpList P ops (fun e a' w' => e = .normal ∧ Mem.le c w'.cell? ∧ wpListS P ops (fun w'' => Mem.le c w''.cell?) R r a' w') [] a w := ⟨rfl, fun a v e => vw_cell (hM a v e), h⟩
theorem s_done {S : World → Prop} {R : Act → World → Prop} (h : R a w) : wpListS P ops S R [] a w := h

/-! ### operations one by one -/
variable {d : Nat} {t : TypeId} {ps : String} {af : Array Edge} {r : List Oper} {Δ : List (Nat × Pr)}
theorem s_c {op : Op} {g : Option (Nat × Bool)} {φ : Pr} (h : St n F0 js Γ w0 a w) (hs : StepG P ops ⟨some d, op, t, ps, af, g⟩ Γ φ) (hd : Nat.blt d n = true)
    (K : ∀ a' w', St n F0 js ((d, φ) :: Γ) w0 a' w' → Mem.le (vw (pf F0 (Its js)) w) (vw (pf F0 (Its js)) w') → wpList P ops Q r a' w') : wpList P ops Q (⟨some d, op, t, ps, af, g⟩ :: r) a w :=
  lc h.at_ h.below hs hd fun a' w' hb _ hA => K a' w' (h.grow hb hA) (vw_below hb)
theorem s_append {k : Nat} {x y : Operand} {T E : TypeId} {α : Type} [Enc α] {v : Value} {xs ys zs : List α} (hT : SlP P T E α) (hz : ZeroP P E α) (h : St n F0 js Γ w0 a w) (hk : js[k]? = some (Item.sl E v xs)) (hl : AllOd Γ Δ) (hC : AllC Δ)
    (hx : Od Δ x (Pr.is v)) (hy : Od Δ y (isV ys)) (happ : app xs ys = some zs) (hd : Nat.blt d n = true)
    (K : ∀ a' w' v', St n F0 (js.set k (Item.sl E v' zs)) ((d, Pr.is v') :: Δ) w0 a' w' → Mem.le (vw (pf F0 (Its js)) w) (vw (pf F0 (Its (js.set k (Item.sl E v' zs)))) w') → wpList P ops Q r a' w') :
    wpList P ops Q (⟨some d, .call { callee := .builtin .append, args := #[x, y], argTypes := #[T, T] }, t, ps, af, none⟩ :: r) a w := by
  have h' := h.weak hl
  refine l_append hT hz (its_at hk) h'.at_ h'.below h'.apart (own_up (h'.it hk) (fun b hb => h'.low k _ b hk hb)) hC hx hy happ hd fun a' w' v' hB hA hD hO hg hle ho hsz => ?_
  exact K a' w' v' (h'.change (it' := Item.sl E v' zs) hk hA hB hsz ho (own_dn hO) hg hle) (by rw [its_set]; exact hle)
theorem s_make {T E : TypeId} {x : Operand} {α : Type} [Enc α] {x0 : α} {q : Int} {xs : List α} (hT : SlP P T E α) (hz : ZeroP P E α) (hz0 : ZeroIs P E x0) (h1 : Nat.beq (Enc.size α) 1 = true) (h : St n F0 js Γ w0 a w) (hx : Od Γ x (isV q)) (hmk : mk q x0 = some xs) (hd : Nat.blt d n = true)
    (K : ∀ a' w' v, St n F0 (js ++ [Item.sl E v xs]) ((d, Pr.is v) :: Γ) w0 a' w' → Mem.le (vw (pf F0 (Its js)) w) (vw (pf F0 (Its (js ++ [Item.sl E v xs]))) w') → wpList P ops Q r a' w') :
    wpList P ops Q (⟨some d, .makeSlice T x x, t, ps, af, none⟩ :: r) a w :=
  l_make hT hz hz0 h1 h.at_ h.below h.apart hx hmk hd fun a' w' v hb _ hA _ hO hnew hle =>
    K a' w' v (h.push (it := Item.sl E v xs) hb hA hnew (own_dn hO) hle) (by rw [its_push]; exact hle)
theorem s_alloc {T : TypeId} {α : Type} [Enc α] {x0 : α} (hz : ZeroIs P T x0) (h : St n F0 js Γ w0 a w) (hd : Nat.blt d n = true)
    (K : ∀ a' w' b, St n F0 (js ++ [Item.box T b x0]) ((d, Pr.ptr b) :: Γ) w0 a' w' → Mem.le (vw (pf F0 (Its js)) w) (vw (pf F0 (Its (js ++ [Item.box T b x0]))) w') → wpList P ops Q r a' w') :
    wpList P ops Q (⟨some d, .alloc T, t, ps, af, none⟩ :: r) a w :=
  l_alloc hz h.at_ h.below h.apart hd fun a' w' b hb _ hA _ hO hnew hle =>
    K a' w' b (h.push (it := Item.box T b x0) hb hA hnew (ownB_to hO (Nat.zero_le _)) hle) (by rw [its_push]; exact hle)
theorem s_allocStore {T : TypeId} {x : Operand} {α : Type} [Enc α] {t' : TypeId} {ps' : String} {af' : Array Edge} {e : α} (hz : ZeroP P T α) (h : St n F0 js Γ w0 a w) (hx : Od Γ x (isV e)) (hne : ∀ k, x = .tmp k → Nat.beq d k = false) (hd : Nat.blt d n = true)
    (K : ∀ a' w', St n F0 js ((d, isA e) :: Γ) w0 a' w' → Mem.le (vw (pf F0 (Its js)) w) (vw (pf F0 (Its js)) w') → wpList P ops Q r a' w') :
    wpList P ops Q (⟨some d, .alloc T, t, ps, af, none⟩ :: ⟨none, .store T (.tmp d) x, t', ps', af', none⟩ :: r) a w :=
  l_allocStore hz hx hne h.at_ h.below hd fun a' w' hb _ hA => K a' w' (h.grow hb hA) (vw_below hb)
theorem s_storeB {k p b : Nat} {T : TypeId} {y : Operand} {α : Type} [Enc α] {x z : α} (hT : TyP P T α) (h : St n F0 js Γ w0 a w) (hk : js[k]? = some (Item.box T b x)) (hl : AllOd Γ Δ) (hC : AllC Δ) (hp : lk Δ p = some (Pr.ptr b)) (hy : Od Δ y (isV z))
    (K : ∀ w', St n F0 (js.set k (Item.box T b z)) Δ w0 a w' → Mem.le (vw (pf F0 (Its js)) w) (vw (pf F0 (Its (js.set k (Item.box T b z)))) w') → wpList P ops Q r a w') :
    wpList P ops Q (⟨none, .store T (.tmp p) y, t, ps, af, none⟩ :: r) a w := by
  have h' := h.weak hl
  have hs := set_self (its_at hk)
  refine l_store hT (its_at hk) h'.at_ h'.below (ownB_to (h'.it hk) (h'.low k _ b hk (bx_iff.2 rfl))) hC hp hy fun w' hB hA hO hg hle hsz => ?_
  refine K w' (h'.change (it' := Item.box T b z) hk (hs.symm ▸ hA) hB hsz (fun q hq => .inl hq) (hs.symm ▸ ownB_to hO (Nat.zero_le _)) hg (hs.symm ▸ hle)) ?_
  rw [its_set]
  exact hs.symm ▸ hle
theorem s_storeEA {k p : Nat} {j : Int} {E : TypeId} {y : Operand} {α : Type} [Enc α] {z : α} {xs xs' : List α} {v : Value} (hT : TyP P E α) (h : St n F0 js Γ w0 a w) (hk : js[k]? = some (Item.sl E v xs)) (hl : AllOd Γ Δ) (hC : AllC Δ)
    (hp : Od Γ (.tmp p) (isEP α v j.toNat)) (hy : Od Γ y (isV z)) (hset : set1 xs j z = some xs')
    (K : ∀ w', St n F0 (js.set k (Item.sl E v xs')) Δ w0 a w' → Mem.le (vw (pf F0 (Its js)) w) (vw (pf F0 (Its (js.set k (Item.sl E v xs')))) w') → wpList P ops Q r a w') :
    wpList P ops Q (⟨none, .store E (.tmp p) y, t, ps, af, none⟩ :: r) a w := by
  have hs := set_self (its_at hk)
  refine l_storeEA hT (its_at hk) h.at_ h.below (own_up (h.it hk) (fun b hb => h.low k _ b hk hb)) hp hy hset hl hC fun w' hB hA hO hg hsz hle => ?_
  refine K w' (h.change (it' := Item.sl E v xs') hk (hs.symm ▸ hA) hB hsz (fun q hq => .inl hq) (hs.symm ▸ own_dn hO) hg (hs.symm ▸ hle)) ?_
  rw [its_set]
  exact hs.symm ▸ hle
/-- The same blocks, said otherwise. -/
theorem St.swap {k : Nat} {it it' : Item} (h : St n F0 js Γ w0 a w) (hk : js[k]? = some it) (ho : it'.o = it.o) (hp : it.p (vw (pf F0 (Its js)) w) w → it'.p (vw (pf F0 (Its js)) w) w) : St n F0 (js.set k it') Γ w0 a w := by
  have hs : (Its js).set k it'.o = Its js := by rw [ho]; exact set_self (its_at hk)
  exact h.change hk (by rw [hs]; exact h.at_) h.below (Nat.le_refl _) (fun b hb => .inl (by rw [ho] at hb; exact hb)) (by rw [hs]; exact hp (h.it hk)) (fun _ _ _ => rfl) (by rw [hs]; exact Mem.le_refl _)
end
end Go.Proofs.YtnnhmgcigoiceaaGreatDoor.Wh

namespace Go.Proofs.YtnnhmgcigoiceaaGreatDoor.Wh
open Go Go.RowKit

/-! ### values as they are -/
structure Raw where
  v : Value
instance : Enc Raw := Enc.single (fun _ v x => v = x.v ∧ v.oneCell' = true) (fun _ h => h) (fun h => h.2)
theorem odRaw {Γ : List (Nat × Pr)} {x : Operand} {u : Value} (hx : Od Γ x (Pr.is u)) (h1 : u.oneCell' = true) : Od Γ x (isV (Raw.mk u)) := by
  have h2 : ∀ (c : Mem2) (v : Value), v = u → (isV (Raw.mk u)).p c v := fun c v e => ⟨e, e ▸ h1⟩
  cases x with
  | tmp t => obtain ⟨ψ, hl, hk⟩ := hx; exact ⟨ψ, hl, fun c v k => h2 c v (hk c v k)⟩
  | const v => exact fun c => h2 c _ (hx c)
  | global g => exact fun c => h2 c _ (hx c)
  | func f => exact fun c => h2 c _ (hx c)
theorem own_one {α : Type} [Enc α] {E B : Nat} {c : Mem} {w : World} {v : Value} {xs : List α} (h : Own E B c w v xs) : v.oneCell' = true := by
  obtain ⟨cells, hr, _⟩ := h.row
  rcases hr.2 with ⟨rfl, _⟩ | ⟨g, cap, cur, rfl, _⟩ <;> rfl
theorem pf_push {F0 : Nat → Bool} {os : List (Nat → Bool)} {o : Nat → Bool} : pf F0 (os ++ [o]) = fun b => pf F0 os b || o b := by
  funext b; simp [pf, Bool.or_assoc]
section
variable {P : Program} {Γ : List (Nat × Pr)} {n : Nat} {F0 : Nat → Bool} {js : List Item} {w0 w : World} {a : Act} {ops : Array Oper} {Q : Exit → Act → World → Prop}
variable {d : Nat} {t : TypeId} {ps : String} {af : Array Edge} {r : List Oper} {Δ : List (Nat × Pr)}
theorem St.one {α : Type} [Enc α] {E : TypeId} {k : Nat} {v : Value} {xs : List α} (h : St n F0 js Γ w0 a w) (hk : js[k]? = some (Item.sl E v xs)) : v.oneCell' = true := own_one (h.it hk)
end
end Go.Proofs.YtnnhmgcigoiceaaGreatDoor.Wh

namespace Go.Proofs.YtnnhmgcigoiceaaGreatDoor.Wh
open Go Go.RowKit

section
variable {P : Program} {Γ : List (Nat × Pr)} {n : Nat} {F0 : Nat → Bool} {js : List Item} {w0 w : World} {a : Act} {ops : Array Oper} {Q : Exit → Act → World → Prop}
theorem St.at0 (h : St n F0 js Γ w0 a w) : At n F0 Γ a w :=
  ⟨h.at_.size, h.at_.defers, fun b hb => h.at_.own b (pf_iff.2 (.inl hb)), h.at_.sat.mono (v2_less fun _ hb => pf_iff.2 (.inl hb))⟩
theorem st_ret {fn : Func} {ρ : Pr} {v : Value} (h : St n F0 js Γ w0 a w) (hr : (results fn a.tmps).run P w = .ok v w) (hv : ρ.p (v2 F0 w) v) : Fin P fn F0 w0 ρ .ret a w := fin_ret h.at_.defers hr h.below hv
theorem St.get (h : St n F0 js Γ w0 a w) {t : Nat} {φ : Pr} (e : lk Γ t = some φ) : φ.p (v2 F0 w) (tmp a t) := h.at0.get e
theorem st_cond {t : Nat} {b : Bool} {x y : Code} (h : St n F0 js Γ w0 a w) (e : lk Γ t = some (isV b)) (ht : b = true → x.wp P Q a w) (hf : b = false → y.wp P Q a w) : (Code.cond (.tmp t) x y).wp P Q a w := c_cond h.at_ e ht hf
theorem callS_of {f : FuncId} {fn : Func} {c : Code} {n : Nat} {φs : List Pr} {ρ : Pr} (hf : P.funcs[f]? = some fn) (hb : fn.body = some c) (hn : fn.ntmps = n) (hl : Nat.ble φs.length n = true)
    (h : ∀ (F0 : Nat → Bool) (w0 : World) (a : Act), St n F0 [] (zipG 0 φs) w0 a w0 → c.wp P (Fin P fn F0 w0 ρ) a w0) : CallOK P f φs ρ :=
  callOK_of hf hb hn hl fun F0 w0 a hF0 hA => h F0 w0 a (st_start hF0 hA)

/-! ### results of the caller's own -/
/-- What a call may return, as a thing of the caller's own. -/
structure ResI where
  /-- what the thing is: the value, and whatever else is said of it -/
  X : Type
  it : Value → X → Item
def CallI (P : Program) (f : FuncId) (φs : List Pr) (ρ : ResI) : Prop :=
  ∀ (F : Nat → Bool) (w : World) (vs : List Value), (∀ b, F b = true → b < w.heap.size) → Fit (v2 F w) φs vs →
    Calls P f vs.toArray w fun e w' => ∃ v x, e = .returned v ∧ Below w.heap.size w w' ∧ (ρ.it v x).p (vw (fun b => F b || (ρ.it v x).o b) w') w' ∧ ∀ b, (ρ.it v x).o b = true → w.heap.size ≤ b ∧ b < w'.heap.size
def resSl {α : Type} [Enc α] (E : TypeId) (xs : List α) : ResI := ⟨Unit, fun v _ => Item.sl E v xs⟩
def FinI (P : Program) (fn : Func) (F0 : Nat → Bool) (w0 : World) (ρ : ResI) : Exit → Act → World → Prop :=
  bodyPost P fn fun e w' => ∃ v x, e = .returned v ∧ Below w0.heap.size w0 w' ∧ (ρ.it v x).p (vw (fun b => F0 b || (ρ.it v x).o b) w') w' ∧ ∀ b, (ρ.it v x).o b = true → w0.heap.size ≤ b ∧ b < w'.heap.size
theorem callI_of {f : FuncId} {fn : Func} {c : Code} {n : Nat} {φs : List Pr} {ρ : ResI} (hf : P.funcs[f]? = some fn) (hb : fn.body = some c) (hn : fn.ntmps = n) (hl : Nat.ble φs.length n = true)
    (h : ∀ (F0 : Nat → Bool) (w0 : World) (a : Act), St n F0 [] (zipG 0 φs) w0 a w0 → c.wp P (FinI P fn F0 w0 ρ) a w0) : CallI P f φs ρ := by
  intro F w vs hF hfit
  refine calls_of_wp hf hb (h F w _ (st_start hF ⟨?_, rfl, hF, ?_⟩))
  · have := hfit.len
    have := Nat.le_of_ble_eq_true hl
    simp [hn]; omega
  · intro t φ e
    have := sat_enter (c := v2 F w) (n := n - vs.length) 0 [] hfit rfl t φ e
    unfold tmp
    rw [Array.getD_eq_getD_getElem?]
    have e2 : ((vs.toArray ++ Array.replicate (fn.ntmps - vs.toArray.size) undef)[t]?) = ([] ++ vs ++ List.replicate (n - vs.length) undef)[t]? := by
      rw [← Array.getElem?_toList]; simp [hn]
    rw [e2]; exact this
theorem fin_item (k : Nat) {it : Item} (h : St n F0 js Γ w0 a w) (hk : js[k]? = some it) : it.p (vw (fun b => F0 b || it.o b) w) w ∧ ∀ b, it.o b = true → w0.heap.size ≤ b ∧ b < w.heap.size := by
  refine ⟨it.kept (h.it hk) (vw_less fun b hb => ?_) (Nat.le_refl _) (fun _ _ => rfl), fun b hb => ⟨h.low k it b hk hb, h.lt hk hb⟩⟩
  rw [Bool.or_eq_true] at hb
  rcases hb with hb | hb
  · exact pf_iff.2 (.inl hb)
  · exact pf_iff.2 (.inr ⟨k, it.o, its_at hk, hb⟩)
theorem st_retI {fn : Func} {ρ : ResI} (k : Nat) {v : Value} (x : ρ.X) (h : St n F0 js Γ w0 a w) (hr : (results fn a.tmps).run P w = .ok v w) (hk : js[k]? = some (ρ.it v x)) : FinI P fn F0 w0 ρ .ret a w :=
  ⟨h.at_.defers, v, hr, v, x, rfl, h.below, fin_item k h hk⟩
variable {d : Nat} {t : TypeId} {ps : String} {af : Array Edge} {r : List Oper} {Δ : List (Nat × Pr)}
/-- 'd = f(..)', which returns a thing of the caller's own. -/
theorem s_callI {f : FuncId} {xs : Array Operand} {ts : Array TypeId} {φs : List Pr} {ρ : ResI} (he : Enters P f) (hc : CallI P f φs ρ) (h : St n F0 js Γ w0 a w) (hx : OdL Γ xs.toList φs) (hd : Nat.blt d n = true)
    (K : ∀ a' w' v x, St n F0 (js ++ [ρ.it v x]) ((d, Pr.is v) :: Γ) w0 a' w' → Mem.le (vw (pf F0 (Its js)) w) (vw (pf F0 (Its (js ++ [ρ.it v x]))) w') → wpList P ops Q r a' w') :
    wpList P ops Q (⟨some d, .call { callee := .value (.func f), args := xs, argTypes := ts }, t, ps, af, none⟩ :: r) a w := by
  have hm : ∀ xs, Met Γ xs (v2 (pf F0 (Its js)) w) a := h.at_.met
  have hfit := OdL.fit (hm (Op.call { callee := .value (.func f), args := xs, argTypes := ts }).operands.toList) hx (fun y hy => mem_call hy)
  have hrun : (execOp a.eval ⟨some d, .call { callee := .value (.func f), args := xs, argTypes := ts }, t, ps, af, none⟩).run P w = .ok (.enter f (xs.toList.map a.eval).toArray) w := by
    have h0 : a.eval (.func f) = .func (.func f) #[] #[] := rfl
    have h1 : xs.map a.eval = (xs.toList.map a.eval).toArray := by rw [← Array.toList_map]
    simp [execOp, resolve, h0, Deferred.ofValue, invoke, h1, he _ w]
  unfold wpList
  simp only [Region.wanted, if_true]
  refine .inl (wp_of_ex ?_)
  unfold Ex
  rw [hrun]
  refine (hc (pf F0 (Its js)) w _ h.at_.own hfit).mono fun e w' ⟨v, x, hev, hb, hp, ho⟩ => ⟨v, hev, ?_⟩
  have hpf : pf F0 (Its js ++ [(ρ.it v x).o]) = fun b => pf F0 (Its js) b || (ρ.it v x).o b := pf_push
  refine K _ _ v x (h.push hb ((at_push h.at_ hb ho).put (by simpa [Nat.blt_eq] using hd) rfl) (fun b hb => (ho b hb).1) (by rw [hpf]; exact hp) (vw_push hb fun b hb => (ho b hb).1)) (by rw [its_push]; exact vw_push hb fun b hb => (ho b hb).1)
end
end Go.Proofs.YtnnhmgcigoiceaaGreatDoor.Wh

namespace Go.Proofs.YtnnhmgcigoiceaaGreatDoor.Wh
open Go Go.RowKit

section
variable {P : Program} {Γ Γ' : List (Nat × Pr)} {n : Nat} {F0 : Nat → Bool} {js js' : List Item} {w0 w : World} {a : Act} {ops : Array Oper} {Q : Exit → Act → World → Prop}
/-- Another slot with the same value. -/
theorem st_also {t q : Nat} {v : Value} {φ : Pr} (h : St n F0 js Γ w0 a w) (h' : St n F0 js' Γ' w0 a w) (et : lk Γ t = some (Pr.is v)) (eq : lk Γ q = some (Pr.is v)) (e' : lk Γ' t = some φ) : St n F0 js' ((q, φ) :: Γ') w0 a w := by
  have h1 : tmp a t = v := h.at_.sat t _ et
  have h2 : tmp a q = v := h.at_.sat q _ eq
  refine ⟨⟨h'.at_.size, h'.at_.defers, h'.at_.own, fun s ψ e => ?_⟩, h'.apart, h'.own, h'.low, h'.below, h'.base⟩
  unfold lk at e
  cases hb : Nat.beq q s with
  | true =>
    rw [hb] at e
    simp only [cond_true, Option.some.injEq] at e
    subst e
    have := Nat.eq_of_beq_eq_true hb
    subst this
    rw [h2, ← h1]
    exact h'.at_.sat t _ e'
  | false =>
    rw [hb] at e
    exact h'.at_.sat s ψ e
/-! ### results that lie in cells -/
theorem run_resC1 {fn : Func} {α : Type} [Enc α] {T t : Nat} {F : Nat → Bool} {a : Act} {w : World} {x : α} (hr : fn.results = #[.cell t T]) (hT : TyP P T α) (h : (isA x).p (v2 F w) (tmp a t)) :
    ∃ v, (results fn a.tmps).run P w = .ok v w ∧ (isV x).p (v2 F w) v := by
  obtain ⟨v, h1, h2⟩ := run_cell (P := P) hT h
  refine ⟨v, ?_, h2⟩
  simp at h1
  simp [results, hr]
  exact h1
end
/-! ### row i, by its header alone -/
section
variable {P : Program} {Γ : List (Nat × Pr)} {ty : TypeId}
/-! ### what may come at any time -/
theorem sy_move {x : Operand} {φ : Pr} (hx : Od Γ x φ) : StepY P (.move x) ty Γ φ :=
  fun c a hm => ⟨a.eval x, hx.get hm (by simp [Op.operands]), fun w _ => by simp [execOp, plain]⟩
theorem run_load_v {T : TypeId} {α : Type} [Enc α] (hT : TyP P T α) {c : Mem} {b off : Nat} {x : α} (h : Holds c b off x) : ∃ v, val c v x ∧ ∀ w : World, Mem.le c w.cell? → (loadVar T ⟨b, off, none⟩).run P w = .ok v w := by
  obtain ⟨vs, hr, hv⟩ := h
  have hl := Enc.len hr
  cases ha : Enc.agg α with
  | false =>
    have h1 := Enc.one (α := α) ha
    rw [h1] at hl
    obtain ⟨v, rfl⟩ : ∃ v, vs = [v] := by
      match vs, hl with
      | [v], _ => exact ⟨v, rfl⟩
    refine ⟨v, by unfold val; rw [ha]; exact hr, fun w hc => ?_⟩
    unfold loadVar
    simp only [Sem.run_bind, hT.isAgg w, Result.andThen, ha]
    have := hc _ _ (hv 0 v rfl)
    simp at this
    simp [this]
  | true =>
    refine ⟨.agg vs.toArray, by unfold val; rw [ha]; exact ⟨vs, rfl, hr⟩, fun w hc => ?_⟩
    unfold loadVar
    simp only [Sem.run_bind, hT.isAgg w, Result.andThen, ha]
    have := run_loadCells_list (P := P) w ⟨b, off, none⟩ vs (fun j v e => by rw [Addr.add_lit]; exact hc _ _ (hv j v e))
    rw [hl] at this
    simp [hT.sizeOf w, this]
theorem sy_load {α : Type} [Enc α] {x : Operand} {T : TypeId} {d : α} (hT : TyP P T α) (hx : Od Γ x (isA d)) : StepY P (.load T x) ty Γ (isV d) :=
  fun c a hm => by
    obtain ⟨b, off, hv, hh⟩ := hx.get hm (by simp [Op.operands])
    obtain ⟨v, hval, hr⟩ := run_load_v hT hh
    exact ⟨v, hval, fun w hc => by simp [execOp, plain, hv, Instr.loadAt, Instr.sureAddr, hr w hc]⟩
theorem sy_fieldAddr {S α : Type} [Enc S] [Enc α] {x : Operand} {T : TypeId} {k : Nat} {f : S → α} {d : S} (hf : FieldP P T k f) (hx : Od Γ x (isA d)) : StepY P (.fieldAddr T x k) ty Γ (isA (f d)) :=
  fun c a hm => by
    obtain ⟨b, off, hv, vs, hr, hh⟩ := hx.get hm (by simp [Op.operands])
    obtain ⟨fs, fd, i, h1, h2, h3, h4, h5, h6⟩ := hf.out
    refine ⟨.pointer (some ⟨b, off + fd.offset, none⟩), ⟨b, off + fd.offset, rfl, _, h6 c.c vs d hr, fun j v e => ?_⟩, fun w _ => ?_⟩
    · rw [List.getElem?_take] at e
      split at e
      · rw [List.getElem?_drop] at e
        have := hh _ _ e
        rw [Nat.add_assoc]; exact this
      · cases e
    · simp [execOp, plain, hv, Instr.fieldAt, run_underlying h1, h2, Instr.sureAddr, fieldPlace, Go.sizeOf, typeInfo, h3, h5, Addr.add_lit]
section
variable {x y : Operand} {T T' : TypeId} {m n : Int} (hx : Od Γ x (isV m)) (hy : Od Γ y (isV n))
include hx hy
end
end
/-! ### a row taken out of a table; a table with a hole -/
section
variable {P : Program} {Γ : List (Nat × Pr)} {n : Nat} {F0 : Nat → Bool} {js : List Item} {w0 w : World} {a : Act} {ty : TypeId}
theorem St.put_fact {t : Nat} {φ : Pr} (h : St n F0 js Γ w0 a w) (hv : φ.p (v2 (pf F0 (Its js)) w) (tmp a t)) : St n F0 js ((t, φ) :: Γ) w0 a w := by
  refine ⟨⟨h.at_.size, h.at_.defers, h.at_.own, fun s ψ e => ?_⟩, h.apart, h.own, h.low, h.below, h.base⟩
  unfold lk at e
  cases hb : Nat.beq t s with
  | true =>
    rw [hb] at e
    simp only [cond_true, Option.some.injEq] at e
    subst e
    have := Nat.eq_of_beq_eq_true hb
    subst this
    exact hv
  | false =>
    rw [hb] at e
    exact h.at_.sat s ψ e
end
end Go.Proofs.YtnnhmgcigoiceaaGreatDoor.Wh

namespace Go.Proofs.YtnnhmgcigoiceaaGreatDoor.Wh
open Go Go.RowKit

instance {α : Type} [Enc α] {n : Nat} : Enc (Vector α n) where
  size := n * Enc.size α
  agg := true
  rep c vs x := RepL c vs x.toList
  len h := by rw [RepL.len h]; simp
  mono hc h := h.mono hc
  cell h := h.cell
  one h := by cases h
/-- An array type, its elements. -/
structure ArP (P : Program) (T E : TypeId) (n : Nat) (α : Type) [Enc α] : Prop where
  desc : P.underlying T = some (.array n E)
  elem : TyP P E α
  pos : Nat.blt 1 n = true
theorem rep_vec {α : Type} [Enc α] {n : Nat} {c : Mem} {vs : List Value} {x : Vector α n} {k : Int} {y : α} (h : Enc.rep c vs x) (he : idxA x k = some y) : k.toNat < n ∧ 0 ≤ k ∧ ∃ us, Enc.rep c us y ∧ ∀ j u, us[j]? = some u → vs[k.toNat * Enc.size α + j]? = some u := by
  obtain ⟨h0, hlt, h1⟩ := idx_some he
  obtain ⟨us, h2, h3⟩ := RepL.get (show RepL c vs x.toList from h) k.toNat hlt
  rw [h1] at h2
  exact ⟨by simpa using hlt, h0, us, h2, h3⟩
section
variable {P : Program} {Γ : List (Nat × Pr)} {ty : TypeId}
theorem sp_indexAddrAB {α : Type} [Enc α] {x k : Operand} {T E : TypeId} {n : Nat} {v : Vector α n} {i : Int} {y : α} (hT : ArP P T E n α) (hx : Od Γ x (isB v)) (hk : Od Γ k (isV i)) (h : idxA v i = some y) : StepP P (.indexAddr T x k) ty Γ (isB y) :=
  step_pure fun c w a hc hm => by
    have hkv := get_int hk hm (by simp [Op.operands])
    obtain ⟨b, off, vs, hv, hr, hh⟩ := hx.get hm (by simp [Op.operands])
    obtain ⟨hlt, h0, us, h2, h3⟩ := rep_vec hr h
    refine ⟨.pointer (some ⟨b, off + i.toNat * Enc.size α, none⟩), ?_, b, _, us, rfl, h2, fun j u e => ?_⟩
    · have hi : 0 ≤ i ∧ i < (n : Int) := ⟨h0, by omega⟩
      simp [execOp, plain, hkv, hv, Instr.indexAt, Instr.sureAddr, asIntOf, run_underlying hT.desc, hi, hT.elem.sizeOf w, Addr.add_lit]
    · have := hh _ _ (h3 j u e)
      rw [Nat.add_assoc]; exact this
end
/-! ### callees that write to an own slice -/
section
variable {P : Program} {Γ Δ : List (Nat × Pr)} {n : Nat} {F0 : Nat → Bool} {js : List Item} {w0 w : World} {a : Act} {ops : Array Oper} {Q : Exit → Act → World → Prop}
variable {t : TypeId} {ps : String} {af : Array Edge} {r : List Oper}
end
end Go.Proofs.YtnnhmgcigoiceaaGreatDoor.Wh

namespace Go.Proofs.YtnnhmgcigoiceaaGreatDoor.Wh
open Go Go.RowKit

/-- A test whether a slice is nil: of one that is not empty it comes out false. -/
def isNilB {α : Type} (xs : List α) : Pr := ⟨fun _ v => ∃ b, v = .bool b ∧ (b = true → xs = []), fun _ h => h⟩
section
variable {P : Program} {Γ Δ : List (Nat × Pr)} {n : Nat} {F0 : Nat → Bool} {js : List Item} {w0 w : World} {a : Act} {ops : Array Oper} {Q : Exit → Act → World → Prop} {ty : TypeId}
theorem sp_eqlNil {α : Type} [Enc α] {x : Operand} {T T' E : TypeId} {xs : List α} (hT : P.underlying T = some (.slice E)) (hx : Od Γ x (isV xs)) : StepP P (.binOp .eql T x (.const (.slice none 0 0)) T') ty Γ (isNilB xs) :=
  step_pure fun c w a hc hm => by
    have h1 : slice c.c (a.eval x) xs := hx.get hm (by simp [Op.operands])
    have hn : a.eval (.const (.slice none 0 0)) = .slice none 0 0 := rfl
    rcases h1 with ⟨a', cap, hv, _, rfl⟩ | ⟨b, off, cap, hv, _, _, _⟩
    · refine ⟨.bool a'.isNone, ?_, a'.isNone, rfl, fun _ => rfl⟩
      simp [execOp, plain, hv, hn, eqGuard, binOp, run_equal_slice_nil w T E a' 0 cap hT]
    · refine ⟨.bool false, ?_, false, rfl, fun h => by cases h⟩
      simp [execOp, plain, hv, hn, eqGuard, binOp, run_equal_slice_nil w T E (some ⟨b, off, none⟩) xs.length cap hT]
theorem st_condN {α : Type} {t : Nat} {xs : List α} {x y : Code} (h : St n F0 js Γ w0 a w) (e : lk Γ t = some (isNilB xs)) (ht : xs = [] → x.wp P Q a w) (hf : y.wp P Q a w) : (Code.cond (.tmp t) x y).wp P Q a w := by
  obtain ⟨b, hb, hx⟩ : ∃ b, tmp a t = .bool b ∧ (b = true → xs = []) := h.at_.sat t _ e
  have h' : St n F0 js ((t, isV b) :: Γ) w0 a w := h.put_fact hb
  exact st_cond (b := b) h' (by simp [lk]) (fun e => ht (hx e)) (fun _ => hf)
variable {d : Nat} {t : TypeId} {ps : String} {af : Array Edge} {r : List Oper}
/-- 'd = []T{}', to be appended to. -/
theorem s_new0 {T E : TypeId} {α : Type} [Enc α] (hT : SlP P T E α) (h : St n F0 js Γ w0 a w) (hd : Nat.blt d n = true)
    (K : ∀ a' w' v, St n F0 (js ++ [Item.sl E v ([] : List α)]) ((d, Pr.is v) :: Γ) w0 a' w' → Mem.le (vw (pf F0 (Its js)) w) (vw (pf F0 (Its (js ++ [Item.sl E v ([] : List α)]))) w') → wpList P ops Q r a' w') :
    wpList P ops Q (⟨some d, .buildSlice T 0 #[], t, ps, af, none⟩ :: r) a w := by
  have hrun : (execOp a.eval ⟨some d, .buildSlice T 0 #[], t, ps, af, none⟩).run P w = .ok (.value (.slice (some ⟨w.heap.size, 0, none⟩) 0 0)) (w.alloc (.cells #[] E)) := by
    obtain ⟨i, hi, hs⟩ := hT.elem.info
    have hz0 : Array.map (fun _ : Nat => (default : Value)) (Array.range 0) = #[] := Array.eq_empty_of_size_eq_zero (by simp)
    simp [execOp, Instr.buildSlice, run_underlying hT.desc, Go.sizeOf, typeInfo, hi, Instr.fill, newRow, hz0]
  unfold wpList
  simp only [Region.wanted, if_true]
  refine .inl (wp_of_ex ?_)
  unfold Ex
  rw [hrun]
  have hb : Below w.heap.size w (w.alloc (.cells #[] E)) := (Below.refl _ _).alloc (Nat.le_refl _) _
  have ho : ∀ b, ob (.slice (some ⟨w.heap.size, 0, none⟩) 0 0) b = true → w.heap.size ≤ b ∧ b < (w.alloc (.cells #[] E)).heap.size := fun b hb => by
    have := ob_iff.1 hb; cases this; exact ⟨Nat.le_refl _, by simp⟩
  have hpf : pf F0 (Its js ++ [(Item.sl E (.slice (some ⟨w.heap.size, 0, none⟩) 0 0) ([] : List α)).o]) = fun b => pf F0 (Its js) b || ob (.slice (some ⟨w.heap.size, 0, none⟩) 0 0) b := pf_push
  refine K _ _ (.slice (some ⟨w.heap.size, 0, none⟩) 0 0) (h.push (it := Item.sl E _ ([] : List α)) hb ((at_push h.at_ hb ho).put (by simpa [Nat.blt_eq] using hd) rfl) (fun b hb => (ho b hb).1) ?_ (vw_push hb fun b hb => (ho b hb).1)) (by rw [its_push]; exact vw_push hb fun b hb => (ho b hb).1)
  refine ⟨⟨[], ⟨by simp, .inr ⟨w.heap.size, 0, #[], rfl, Nat.zero_le _, heap_alloc_new w _, Nat.le_refl _, Nat.zero_le _, by simp, by simp⟩⟩, rfl⟩⟩
end
end Go.Proofs.YtnnhmgcigoiceaaGreatDoor.Wh

namespace Go.Proofs.YtnnhmgcigoiceaaGreatDoor.Wh
open Go Go.RowKit

structure EqP (P : Program) (k : Nat) (T : TypeId) (α : Type) [Enc α] [BEq α] : Prop where
  out : ∀ (d : Nat) (c c' : Mem) (v u : Value) (x y : α) (w : World), val c v x → val c' u y → (Op.equalIn (d + k) T v u).run P w = .ok (x == y) w
section
variable {P : Program} {Γ : List (Nat × Pr)} {ty : TypeId}
theorem EqP.int {T : TypeId} (hT : P.underlying T = some (.int .i64)) : EqP P 1 T Int := ⟨fun d c c' v u x y w hv hu => by
  have hv : v = .int .i64 x := hv
  have hu : u = .int .i64 y := hu
  subst hv; subst hu
  simp [Op.equalIn, run_underlying hT]⟩
theorem EqP.bool {T : TypeId} (hT : P.underlying T = some .bool) : EqP P 1 T Bool := ⟨fun d c c' v u x y w hv hu => by
  have hv : v = .bool x := hv
  have hu : u = .bool y := hu
  subst hv; subst hu
  simp [Op.equalIn, run_underlying hT]⟩
theorem EqP.str {T : TypeId} (hT : P.underlying T = some .string) : EqP P 1 T ByteArray := ⟨fun d c c' v u x y w hv hu => by
  have hv : v = .string x := hv
  have hu : u = .string y := hu
  subst hv; subst hu
  simp [Op.equalIn, run_underlying hT]⟩
theorem run_part {T : TypeId} {α : Type} [Enc α] (hT : TyP P T α) {c : Mem} {vs : List Value} {off : Nat} {x : α} (h : Enc.rep c ((vs.drop off).take (Enc.size α)) x) (w : World) : ∃ v, (part T vs.toArray off).run P w = .ok v w ∧ val c v x := by
  have hl := Enc.len h
  unfold part
  simp only [Sem.run_bind, hT.isAgg w, Result.andThen]
  cases ha : Enc.agg α with
  | false =>
    have h1 := Enc.one (α := α) ha
    rw [h1] at hl h
    rw [List.length_take, List.length_drop] at hl
    have hlt : off < vs.length := by omega
    refine ⟨vs[off], ?_, ?_⟩
    · simp [hlt]
    · unfold val; rw [ha]
      rw [List.drop_eq_getElem_cons hlt] at h
      exact h
  | true =>
    refine ⟨.agg (vs.toArray.extract off (off + Enc.size α)), ?_, ?_⟩
    · simp [hT.sizeOf w]
    · unfold val; rw [ha]
      refine ⟨_, ?_, h⟩
      congr 1
      apply Array.ext'
      simp [List.extract_eq_take_drop]
def FsEq (P : Program) (k : Nat) {S : Type} [Enc S] : List Field → (S → S → Bool) → Prop
  | [], b => ∀ x y, b x y = true
  | f :: fs, b => f.name ≠ "_" ∧ ∃ (α : Type) (_ : Enc α) (_ : BEq α) (p : S → α) (b' : S → S → Bool), TyP P f.type α ∧ EqP P k f.type α ∧ (∀ (c : Mem) (vs : List Value) (x : S), Enc.rep c vs x → Enc.rep c ((vs.drop f.offset).take (Enc.size α)) (p x)) ∧ FsEq P k fs b' ∧ ∀ x y, b x y = ((p x == p y) && b' x y)
theorem fsEq_run {k d : Nat} {S : Type} [Enc S] {c c' : Mem} {vs us : List Value} {x y : S} (hx : Enc.rep c vs x) (hy : Enc.rep c' us y) (w : World) : ∀ {fs : List Field} {b : S → S → Bool}, FsEq P k fs b → (Op.eqFields (d + k) vs.toArray us.toArray fs).run P w = .ok (b x y) w
  | [], b, h => by simp [Op.eqFields, h x y]
  | f :: fs, b, h => by
    obtain ⟨hn, α, i1, i2, p, b', hT, hE, hr, hfs, hb⟩ := h
    obtain ⟨v, hv1, hv2⟩ := run_part hT (hr c vs x hx) w
    obtain ⟨u, hu1, hu2⟩ := run_part hT (hr c' us y hy) w
    have he := hE.out d c c' v u (p x) (p y) w hv2 hu2
    have ih := fsEq_run (d := d) hx hy w hfs
    unfold Op.eqFields
    rw [if_pos hn]
    simp only [Sem.run_bind, hv1, hu1, he, Result.andThen_ok, hb]
    cases hq : p x == p y with
    | false => simp
    | true => simp [ih]
theorem EqP.struct {k : Nat} {T : TypeId} {S : Type} [Enc S] [BEq S] {fs : List Field} (ha : Enc.agg S = true) (hT : P.underlying T = some (.struct fs.toArray)) (hp : P.stoodInHeld T = false) (h : FsEq P k fs (fun x y : S => x == y)) : EqP P (k + 1) T S := ⟨fun d c c' v u x y w hv hu => by
  unfold val at hv hu
  rw [ha] at hv hu
  obtain ⟨vs, rfl, hv⟩ := hv
  obtain ⟨us, rfl, hu⟩ := hu
  have hf : P.fieldsOf T = fs.toArray := by simp [Program.fieldsOf, hT]
  have := run_equalIn_struct w (d + k) T vs.toArray us.toArray (by rw [hf]; exact hT) hp
  rw [show d + (k + 1) = d + k + 1 from rfl, this, hf]
  exact fsEq_run hv hu w h⟩
theorem rep_drop {α : Type} [Enc α] {c : Mem} : ∀ {cells : List Value} {xs : List α}, RepL c cells xs → ∀ i (h : i < xs.length), Enc.rep c ((cells.drop (i * Enc.size α)).take (Enc.size α)) xs[i]
  | _, [], _, i, h => by simp at h
  | _, x :: xs, ⟨v1, v2, he, h1, h2⟩, i, h => by
    have hl := Enc.len h1
    cases i with
    | zero => rw [he, Nat.zero_mul, List.drop_zero, ← hl, List.take_left]; exact h1
    | succ i =>
      have := rep_drop h2 i (by simpa using h)
      rw [he, show (i + 1) * Enc.size α = v1.length + i * Enc.size α from by rw [Nat.succ_mul, hl]; omega, ← List.drop_drop, List.drop_left]
      exact this
theorem eqItems_run {k d : Nat} {E : TypeId} {α : Type} [Enc α] [BEq α] [LawfulBEq α] (hT : TyP P E α) (hE : EqP P k E α) {c c' : Mem} {vs us : List Value} {xs ys : List α} (hx : RepL c vs xs) (hy : RepL c' us ys) (w : World) :
    ∀ (is : List Nat), (∀ i ∈ is, i < xs.length ∧ i < ys.length) → ∃ b, (Op.eqItems (d + k) E (Enc.size α) vs.toArray us.toArray is).run P w = .ok b w ∧ (b = true ↔ ∀ i ∈ is, xs[i]? = ys[i]?)
  | [], _ => ⟨true, by simp [Op.eqItems], by simp⟩
  | i :: is, h => by
    obtain ⟨h1, h2⟩ := h i (by simp)
    obtain ⟨v, hv1, hv2⟩ := run_part hT (rep_drop hx i h1) w
    obtain ⟨u, hu1, hu2⟩ := run_part hT (rep_drop hy i h2) w
    have he := hE.out d c c' v u xs[i] ys[i] w hv2 hu2
    obtain ⟨b, hb, hi⟩ := eqItems_run (d := d) hT hE hx hy w is fun j hj => h j (by simp [hj])
    unfold Op.eqItems
    simp only [Sem.run_bind, hv1, hu1, he, Result.andThen_ok]
    cases hq : xs[i] == ys[i] with
    | false =>
      refine ⟨false, by simp, by simp only [Bool.false_eq_true, false_iff]; intro hall; have := hall i (by simp); rw [List.getElem?_eq_getElem h1, List.getElem?_eq_getElem h2] at this; simp at this; rw [this] at hq; simp at hq⟩
    | true =>
      have hq' := eq_of_beq hq
      refine ⟨b, by simp [hb], ?_⟩
      rw [hi]
      constructor <;> intro hall j hj
      · rcases List.mem_cons.1 hj with rfl | hj
        · rw [List.getElem?_eq_getElem h1, List.getElem?_eq_getElem h2, hq']
        · exact hall j hj
      · exact hall j (by simp [hj])
theorem EqP.array {k n : Nat} {T E : TypeId} {α : Type} [Enc α] [BEq α] [LawfulBEq α] (hT : ArP P T E n α) (hE : EqP P k E α) : EqP P (k + 1) T (Vector α n) := ⟨fun d c c' v u x y w hv hu => by
  have hv : ∃ vs, v = .agg vs.toArray ∧ RepL c vs x.toList := hv
  have hu : ∃ vs, u = .agg vs.toArray ∧ RepL c' vs y.toList := hu
  obtain ⟨vs, e1, hv⟩ := hv
  obtain ⟨us, e2, hu⟩ := hu
  subst e1; subst e2
  obtain ⟨i, hi, hs⟩ := hT.elem.info
  have hc : P.cellsOf E = Enc.size α := by simp [Program.cellsOf, hi, hs]
  rw [show d + (k + 1) = d + k + 1 from rfl, run_equalIn_array w (d + k) vs.toArray us.toArray hT.desc hi, hc]
  obtain ⟨b, hb, hiff⟩ := eqItems_run (d := d) (vs := vs) (us := us) (xs := x.toList) (ys := y.toList) (c := c) (c' := c') hT.elem hE (by assumption) (by assumption) w (List.range n) (fun j hj => by simpa using List.mem_range.1 hj)
  rw [hb]
  congr 1
  apply Bool.eq_iff_iff.2
  rw [hiff, beq_iff_eq]
  constructor
  · intro h
    apply Vector.ext
    intro j hj
    have := h j (List.mem_range.2 hj)
    simpa [hj] using this
  · rintro rfl j _; rfl⟩
theorem sp_neqS {k : Nat} {α : Type} [Enc α] [BEq α] {x y : Operand} {T T' : TypeId} {m n : α} (hE : EqP P k T α) (ha : Enc.agg α = true) (hg : P.eqGuardType P.depth T = false) (hk : Nat.ble k 10000 = true) (hx : Od Γ x (isV m)) (hy : Od Γ y (isV n)) : StepP P (.binOp .neq T x y T') ty Γ (isV (m != n)) :=
  step_pure fun c w a hc hm => by
    have h1 : val c.c (a.eval x) m := hx.get hm (by simp [Op.operands])
    have h2 : val c.c (a.eval y) n := hy.get hm (by simp [Op.operands])
    have he := hE.out (10000 - k) c.c c.c _ _ m n w h1 h2
    rw [Nat.sub_add_cancel (Nat.le_of_ble_eq_true hk)] at he
    unfold val at h1 h2
    rw [ha] at h1 h2
    obtain ⟨vs, hv, _⟩ := h1
    obtain ⟨us, hu, _⟩ := h2
    refine ⟨.bool (m != n), ?_, rfl⟩
    rw [hv, hu] at he
    simp [execOp, plain, hv, hu, run_eqGuard_agg w _ _ _ _ _ _ hg, run_neq_struct, he, bne]
end
end Go.Proofs.YtnnhmgcigoiceaaGreatDoor.Wh

namespace Go.Proofs.YtnnhmgcigoiceaaGreatDoor.Wh
open Go Go.RowKit

structure OpenT (P : Program) (T : TypeId) (α : Type) [Enc α] : Prop where
  ty : TyP P T α
  one : Enc.agg α = false → ∀ (w : World) (base : Nat) (v : Value), Value.okWide P w .any base T v → v.cells = #[v]
  out : ∀ {H : Type} {enc : TypeId × Value → H} {w : World} {base : Nat} {sp : Nat → Bool} {held : Bool} (n : Nat) (cs : List Value) (x : DataW H × List MemPlace), DataW.trod enc P w base sp held n T cs = some x → ∃ a : α, Enc.rep w.cell? cs a
theorem OpenT.int {P : Program} {T : TypeId} (hi : (P.info? T).map (·.size) = some 1) (h : P.underlying T = some (.int .i64)) : OpenT P T Int where
  ty := TyP.mk' h rfl hi
  one _ w base v hv := by
    simp only [Value.okWide, h, Cell.okWide] at hv
    cases v <;> simp_all [Cell.ok, Value.cells]
  out n cs x ht := by
    cases n with
    | zero => simp [DataW.trod] at ht
    | succ n =>
      simp only [DataW.trod, h] at ht
      match cs, ht with
      | [.int k m], ht =>
        simp only at ht
        split at ht
        · rename_i hk; obtain ⟨rfl, _⟩ := hk; exact ⟨m, rfl⟩
        · cases ht
theorem OpenT.bool {P : Program} {T : TypeId} (hi : (P.info? T).map (·.size) = some 1) (h : P.underlying T = some .bool) : OpenT P T Bool where
  ty := TyP.mk' h rfl hi
  one _ w base v hv := by
    simp only [Value.okWide, h, Cell.okWide] at hv
    cases v <;> simp_all [Cell.ok, Value.cells]
  out n cs x ht := by
    cases n with
    | zero => simp [DataW.trod] at ht
    | succ n =>
      simp only [DataW.trod, h] at ht
      match cs, ht with
      | [.bool b], ht => exact ⟨b, rfl⟩
theorem OpenT.str {P : Program} {T : TypeId} (hi : (P.info? T).map (·.size) = some 1) (h : P.underlying T = some .string) : OpenT P T ByteArray where
  ty := TyP.mk' h rfl hi
  one _ w base v hv := by
    simp only [Value.okWide, h, Cell.okWide] at hv
    cases v <;> simp_all [Cell.ok, Value.cells]
  out n cs x ht := by
    cases n with
    | zero => simp [DataW.trod] at ht
    | succ n =>
      simp only [DataW.trod, h] at ht
      match cs, ht with
      | [.string s], ht => exact ⟨s, rfl⟩
theorem mapM_all {α β : Type} {f : α → Option β} : ∀ {l : List α} {r : List β}, l.mapM f = some r → ∀ a ∈ l, ∃ b, f a = some b
  | [], _, _, a, h => by simp at h
  | x :: l, r, h, a, ha => by
    rw [List.mapM_cons] at h
    cases hx : f x with
    | none => rw [hx] at h; cases h
    | some y =>
      rw [hx] at h
      cases hl : l.mapM f with
      | none => rw [hl] at h; cases h
      | some s =>
        rcases List.mem_cons.1 ha with rfl | ha
        · exact ⟨y, hx⟩
        · exact mapM_all hl a ha
theorem mapM_get {α β : Type} {f : α → Option β} : ∀ {l : List α} {r : List β}, l.mapM f = some r → r.length = l.length ∧ ∀ (j : Nat) (b : β), r[j]? = some b → ∃ a, l[j]? = some a ∧ f a = some b
  | [], r, h => by cases h; simp
  | x :: l, r, h => by
    rw [List.mapM_cons] at h
    cases hx : f x with
    | none => rw [hx] at h; cases h
    | some y =>
      rw [hx] at h
      cases hl : l.mapM f with
      | none => rw [hl] at h; cases h
      | some s =>
        rw [hl] at h
        cases h
        obtain ⟨h1, h2⟩ := mapM_get hl
        refine ⟨by simp [h1], fun j b hb => ?_⟩
        cases j with
        | zero => simp at hb; subst hb; exact ⟨x, rfl, hx⟩
        | succ j => simpa using h2 j b (by simpa using hb)
theorem cells_get {w : World} {base : Nat} {a : Addr} {n : Nat} {cs : List Value} (h : w.cells? base a n = some cs) : cs.length = n ∧ ∀ (j : Nat) (v : Value), cs[j]? = some v → w.cell? (a.add j) = some v := by
  unfold World.cells? at h
  split at h
  · obtain ⟨h1, h2⟩ := mapM_get h
    refine ⟨by simpa using h1, fun j v e => ?_⟩
    obtain ⟨i, hi, hv⟩ := h2 j v e
    obtain ⟨hlt, he⟩ := List.getElem?_eq_some_iff.1 hi
    simp at he
    subst he; exact hv
  · cases h
theorem choose_list {α : Type} {p : Nat → α → Prop} : ∀ (n : Nat), (∀ i, i < n → ∃ a, p i a) → ∃ l : List α, l.length = n ∧ ∀ i (h : i < l.length), p i l[i]
  | 0, _ => ⟨[], rfl, fun i h => by simp at h⟩
  | n + 1, h => by
    obtain ⟨l, hl, hp⟩ := choose_list n fun i hi => h i (by omega)
    obtain ⟨a, ha⟩ := h n (by omega)
    refine ⟨l ++ [a], by simp [hl], fun i hi => ?_⟩
    by_cases hin : i < n
    · rw [List.getElem_append_left (by omega)]; exact hp i (by omega)
    · have : i = n := by simp at hi; omega
      subst this
      rw [List.getElem_append_right (by omega)]
      simpa [hl] using ha
theorem OpenT.slice {P : Program} {T E : TypeId} {α : Type} [Enc α] (hi : (P.info? T).map (·.size) = some 1) (h : P.underlying T = some (.slice E)) (hE : OpenT P E α) (hpos : Nat.blt 0 (Enc.size α) = true) : OpenT P T (List α) where
  ty := TyP.mk' h rfl hi
  one _ w base v hv := by
    simp only [Value.okWide, h, Cell.okWide] at hv
    cases v <;> simp_all [Cell.ok, Value.cells]
  out n cs x ht := by
    have hpos : 0 < Enc.size α := by simpa [Nat.blt_eq] using hpos
    obtain ⟨inf, hinf, hsz⟩ := hE.ty.info
    have hc : P.cellsOf E = Enc.size α := by simp [Program.cellsOf, hinf, hsz]
    cases n with
    | zero => simp [DataW.trod] at ht
    | succ n =>
      rename_i w base sp held
      have hsh : cs = [.slice none 0 0] ∨ ∃ a len cap, cs = [.slice (some a) len cap] := by
        unfold DataW.trod at ht
        rw [h] at ht
        split at ht <;> first | (rename_i e _; cases e; done) | cases ht | skip
        all_goals first | exact .inl rfl | exact .inr ⟨_, _, _, rfl⟩ | (simp_all; done)
      rcases hsh with rfl | ⟨a, len, cap, rfl⟩
      · exact ⟨[], .inl ⟨none, 0, rfl, Nat.zero_le _, rfl⟩⟩
      · simp only [DataW.trod, h] at ht
        split at ht
        · rename_i hb
          obtain ⟨hb1, hb2, hb3⟩ := hb
          cases hm : (List.range len).mapM (fun i => (w.cells? base (a.add (i * P.cellsOf E)) (P.cellsOf E)).bind (DataW.trod _ P w base sp held n E)) with
          | none => rw [hm] at ht; cases ht
          | some elems =>
            have hall : ∀ i, i < len → ∃ y : α, ∃ vs, Enc.rep w.cell? vs y ∧ ∀ j u, vs[j]? = some u → w.cell? ((a.add (i * Enc.size α)).add j) = some u := by
              intro i hi
              obtain ⟨y, hy⟩ := mapM_all hm i (List.mem_range.2 hi)
              cases hcs : w.cells? base (a.add (i * P.cellsOf E)) (P.cellsOf E) with
              | none => rw [hcs] at hy; cases hy
              | some vs =>
                rw [hcs] at hy
                obtain ⟨z, hz⟩ := hE.out n vs y hy
                rw [hc] at hcs
                exact ⟨z, vs, hz, (cells_get hcs).2⟩
            obtain ⟨xs, hxl, hxs⟩ := choose_list len hall
            cases hl : len with
            | zero =>
              have : xs = [] := List.eq_nil_of_length_eq_zero (by omega)
              exact ⟨[], .inl ⟨some a, cap, by rw [← hl, hl], hb3, rfl⟩⟩
            | succ m =>
              have hspot : a.spot = none := by
                obtain ⟨vs, hr, hv⟩ := hxs 0 (by omega)
                have hlen := Enc.len hr
                have := hv 0 vs[0] (by simp)
                have := World.cell?_spot this
                simp only [Addr.add] at this
                split at this <;> simp_all
              obtain ⟨b, off, sp'⟩ := a
              have hspot : sp' = none := hspot
              subst hspot
              refine ⟨xs, .inr ⟨b, off, cap, by rw [← hl, hxl], by omega, hb3, fun i hi => ?_⟩⟩
              obtain ⟨vs, hr, hv⟩ := hxs i hi
              refine ⟨vs, hr, fun j u e => ?_⟩
              have := hv j u e
              rw [Addr.add_lit, Addr.add_lit] at this
              exact this
        · cases ht
theorem trod_struct {P : Program} {T : TypeId} {fs : Array Field} (h : P.underlying T = some (.struct fs)) {H : Type} {enc : TypeId × Value → H} {w : World} {base : Nat} {sp : Nat → Bool} {held : Bool} {n : Nat} {cs : List Value} {x : DataW H × List MemPlace} (ht : DataW.trod enc P w base sp held n T cs = some x) :
    ∃ m, cs.length = P.cellsOf T ∧ ∀ (k : Nat) (f : Field), fs[k]? = some f → ∃ y, DataW.trod enc P w base sp held m f.type ((cs.drop f.offset).take (P.cellsOf f.type)) = some y := by
  cases n with
  | zero => simp [DataW.trod] at ht
  | succ n =>
    simp only [DataW.trod, h] at ht
    split at ht
    · rename_i hl
      refine ⟨n, hl, fun k f hf => ?_⟩
      cases hm : fs.toList.mapM (fun f => DataW.trod enc P w base sp held n f.type ((cs.drop f.offset).take (P.cellsOf f.type))) with
      | none => rw [hm] at ht; cases ht
      | some r => exact mapM_all hm f (by simpa using Array.mem_of_getElem? hf)
    · cases ht
theorem OpenT.fld {P : Program} {E : TypeId} {α : Type} [Enc α] (hE : OpenT P E α) {H : Type} {enc : TypeId × Value → H} {w : World} {base : Nat} {sp : Nat → Bool} {held : Bool} {m off : Nat} {cs : List Value} (h : ∃ y, DataW.trod enc P w base sp held m E ((cs.drop off).take (P.cellsOf E)) = some y) :
    ∃ a : α, Enc.rep w.cell? ((cs.drop off).take (Enc.size α)) a := by
  obtain ⟨y, hy⟩ := h
  obtain ⟨inf, hinf, hsz⟩ := hE.ty.info
  have hc : P.cellsOf E = Enc.size α := by simp [Program.cellsOf, hinf, hsz]
  rw [hc] at hy
  exact hE.out m _ y hy
theorem rep_pair {α β : Type} [Enc α] [Enc β] {c : Mem} {cs : List Value} {a : α} {b : β} (h : Enc.rep c (cs.take (Enc.size α)) a) (k : Enc.rep c (cs.drop (Enc.size α)) b) : Enc.rep c cs (a, b) := ⟨_, _, (List.take_append_drop _ _).symm, h, k⟩
theorem OpenT.array {P : Program} {T E : TypeId} {n : Nat} {α : Type} [Enc α] (hi : (P.info? T).map (·.size) = some (n * Enc.size α)) (h : P.underlying T = some (.array n E)) (hE : OpenT P E α) {X : Type} [Enc X] (hX : Enc.agg X = true) (hs : Enc.size X = n * Enc.size α)
    (hr : ∀ (c : Mem) (cs : List Value) (l : List α), l.length = n → cs.length = n * Enc.size α → (∀ i (hi : i < l.length), Enc.rep c ((cs.drop (i * Enc.size α)).take (Enc.size α)) l[i]) → ∃ x : X, Enc.rep c cs x) : OpenT P T X where
  ty := TyP.mk' h (by rw [hX]; rfl) (by rw [hs]; exact hi)
  one ha := by rw [hX] at ha; cases ha
  out m cs x ht := by
    obtain ⟨inf, hinf, hsz⟩ := hE.ty.info
    have hc : P.cellsOf E = Enc.size α := by simp [Program.cellsOf, hinf, hsz]
    cases m with
    | zero => simp [DataW.trod] at ht
    | succ m =>
      rename_i w base sp held
      simp only [DataW.trod, h] at ht
      split at ht
      · rename_i hl
        cases hm : (List.range n).mapM (fun i => DataW.trod _ P w base sp held m E ((cs.drop (i * P.cellsOf E)).take (P.cellsOf E))) with
        | none => rw [hm] at ht; cases ht
        | some r =>
          obtain ⟨l, hll, hlp⟩ := choose_list (p := fun i (y : α) => Enc.rep w.cell? ((cs.drop (i * Enc.size α)).take (Enc.size α)) y) n fun i hi => by
            obtain ⟨y, hy⟩ := mapM_all hm i (List.mem_range.2 hi)
            rw [hc] at hy
            exact hE.out m _ y hy
          have hct : P.cellsOf T = n * Enc.size α := by
            unfold Program.cellsOf
            cases hq : P.info? T with
            | none => rw [hq] at hi; cases hi
            | some q => rw [hq] at hi; simpa using hi
          exact hr _ cs l hll (hl.trans hct) hlp
      · cases ht
theorem OpenT.top {P : Program} {T : TypeId} {α : Type} [Enc α] (h : OpenT P T α) {H : Type} {enc : TypeId × Value → H} {W : World} {base b0 : Nat} {sp : Nat → Bool} {held : Bool} {v : Value} {d : DataW H} {p : List MemPlace}
    (hv : Value.okWide P W .any base T v) (ht : DataW.Trod enc P W b0 sp held T v d p) : ∃ a : α, val (vw (fun _ => false) W) v a := by
  obtain ⟨n, hn⟩ := ht
  obtain ⟨a, ha⟩ := h.out n _ _ hn
  have hvw : vw (fun _ => false) W = W.cell? := by funext q; simp [vw]
  rw [hvw]
  refine ⟨a, ?_⟩
  unfold val
  cases hq : Enc.agg α with
  | false =>
    have := h.one hq W base v hv
    rw [this] at ha
    exact ha
  | true =>
    obtain ⟨d', hd, hag⟩ := h.ty.desc
    rw [hq] at hag
    unfold Value.okWide at hv
    rw [hd] at hv
    cases d' <;> simp [aggD] at hag
    · obtain ⟨cs, rfl, _⟩ := hv; exact ⟨cs.toList, by simp, by simpa [Value.cells] using ha⟩
    · obtain ⟨cs, rfl, _⟩ := hv; exact ⟨cs.toList, by simp, by simpa [Value.cells] using ha⟩
/-- Arguments read behind the call as they read before. -/
theorem trodAll_stays {P : Program} {H : Type} {enc : TypeId × Value → H} (hl : laidOutB P = true) {W W' : World} (hb : Below W.heap.size W W') : ∀ {ts : List TypeId} {vs : List Value} {ds : List (DataW H)} {p : List MemPlace}, (ts.all fun t => P.readableRec t && Nat.blt t P.types.size) = true →
    DataW.TrodAll enc P W 0 (fun _ => true) true ts vs ds p → DataW.TrodAll enc P W' 0 (fun b => decide (b < W.heap.size)) true ts vs ds p
  | [], [], [], _, _, h => h
  | t :: ts, v :: vs, d :: ds, p, hr, ⟨p1, p2, h1, h2, e⟩ => by
    rw [List.all_cons, Bool.and_eq_true, Bool.and_eq_true] at hr
    obtain ⟨⟨hr1, hr2⟩, hr3⟩ := hr
    refine ⟨p1, p2, ?_, trodAll_stays hl hb hr3 h2, e⟩
    have k := h1
    obtain ⟨m, hm⟩ := k
    exact Go.RowKit.Below.trod hl hr1 (by simpa [Nat.blt_eq] using hr2) h1 hb.kit (DataW.trod_lt m _ _ _ hm)
  | [], [], _ :: _, _, _, h => h.elim
  | [], _ :: _, _, _, _, h => h.elim
  | _ :: _, [], _, _, _, h => h.elim
  | _ :: _, _ :: _, [], _, _, h => h.elim
end Go.Proofs.YtnnhmgcigoiceaaGreatDoor.Wh
