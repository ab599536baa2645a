/-
  What is proved: slices that a call makes itself and appends to; variables that it lays in memory.
-/
import Derived.Test.YtkbilbeaedocjaaCalls
namespace Go.Proofs.Ytkbilbeaedocjaa.Wh
open Go Go.RowKit

/-! ### cells of a list -/
def RepL {α : Type} [Enc α] (c : Mem) : List Value → List α → Prop
  | cells, [] => cells = []
  | cells, x :: r => ∃ v1 v2, cells = v1 ++ v2 ∧ Enc.rep c v1 x ∧ RepL c v2 r
theorem RepL.mono {α : Type} [Enc α] {c c' : Mem} (hc : Mem.le c c') : ∀ {cells : List Value} {xs : List α}, RepL c cells xs → RepL c' cells xs
  | _, [], h => h
  | _, _ :: _, ⟨v1, v2, he, h1, h2⟩ => ⟨v1, v2, he, Enc.mono hc h1, RepL.mono hc h2⟩
theorem RepL.append {α : Type} [Enc α] {c : Mem} : ∀ {cells cells' : List Value} {xs ys : List α}, RepL c cells xs → RepL c cells' ys → RepL c (cells ++ cells') (xs ++ ys)
  | _, _, [], _, h, k => by cases h; exact k
  | _, _, _ :: _, _, ⟨v1, v2, he, h1, h2⟩, k => ⟨v1, _, by rw [he, List.append_assoc], h1, RepL.append h2 k⟩
theorem RepL.len {α : Type} [Enc α] {c : Mem} : ∀ {cells : List Value} {xs : List α}, RepL c cells xs → cells.length = xs.length * Enc.size α
  | _, [], h => by cases h; simp
  | _, _ :: _, ⟨v1, v2, he, h1, h2⟩ => by rw [he, List.length_append, Enc.len h1, RepL.len h2, List.length_cons, Nat.add_mul]; omega
theorem RepL.cell {α : Type} [Enc α] {c : Mem} : ∀ {cells : List Value} {xs : List α}, RepL c cells xs → ∀ u ∈ cells, u.oneCell' = true
  | _, [], h => by cases h; intro u hu; cases hu
  | _, _ :: _, ⟨v1, v2, he, h1, h2⟩ => by
    subst he
    intro u hu
    rcases List.mem_append.1 hu with hu | hu
    · exact Enc.cell h1 u hu
    · exact RepL.cell h2 u hu
theorem RepL.get {α : Type} [Enc α] {c : Mem} : ∀ {cells : List Value} {xs : List α}, RepL c cells xs → ∀ i (h : i < xs.length), ∃ vs, Enc.rep c vs xs[i] ∧ ∀ j v, vs[j]? = some v → cells[i * Enc.size α + j]? = some v
  | _, [], _, i, h => absurd h (by simp)
  | _, x :: r, ⟨v1, v2, he, h1, h2⟩, 0, _ => ⟨v1, h1, fun j v e => by
      subst he
      rw [Nat.zero_mul, Nat.zero_add, List.getElem?_append_left (List.getElem?_eq_some_iff.1 e).1]; exact e⟩
  | _, x :: r, ⟨v1, v2, he, h1, h2⟩, i + 1, h => by
      obtain ⟨vs, hr, hv⟩ := RepL.get h2 i (by simpa using h)
      refine ⟨vs, by simpa using hr, fun j v e => ?_⟩
      subst he
      have := hv j v e
      rw [List.getElem?_append_right (by rw [Enc.len h1, Nat.add_mul]; omega), Enc.len h1]
      rw [show (i + 1) * Enc.size α + j - Enc.size α = i * Enc.size α + j by rw [Nat.add_mul]; omega]
      exact this
/-- The cells of a slice that is read. -/
theorem slice_cells {α : Type} [Enc α] {c : Mem} {b off : Nat} : ∀ (xs : List α) (k : Nat), (∀ i (h : i < xs.length), Holds c b (off + (k + i) * Enc.size α) xs[i]) →
    ∃ cells, RepL c cells xs ∧ ∀ j v, cells[j]? = some v → c ⟨b, off + k * Enc.size α + j, none⟩ = some v
  | [], k, _ => ⟨[], rfl, fun j v e => by simp at e⟩
  | x :: r, k, h => by
    obtain ⟨cs, h1, h2⟩ := slice_cells r (k + 1) (fun i hi => by
      have := h (i + 1) (by simpa using hi)
      rw [show k + (i + 1) = k + 1 + i by omega] at this
      simpa using this)
    obtain ⟨vs, hr, hv⟩ := h 0 (by simp)
    simp only [Nat.add_zero, List.getElem_cons_zero] at hr hv
    refine ⟨vs ++ cs, ⟨vs, cs, rfl, hr, h1⟩, fun j v e => ?_⟩
    by_cases hj : j < vs.length
    · rw [List.getElem?_append_left hj] at e; exact hv j v e
    · rw [List.getElem?_append_right (by omega)] at e
      have := h2 _ _ e
      rw [Enc.len hr] at this hj
      rw [show off + (k + 1) * Enc.size α + (j - Enc.size α) = off + k * Enc.size α + j by rw [Nat.add_mul]; omega] at this
      exact this

/-! ### what a call owns -/
def ob (v : Value) : Nat → Bool := fun b => v.ownBlock == some b
theorem ob_iff {v : Value} {b : Nat} : ob v b = true ↔ v.ownBlock = some b := by unfold ob; simp
def pf (F0 : Nat → Bool) (os : List (Nat → Bool)) : Nat → Bool := fun b => F0 b || os.any fun o => o b
theorem pf_iff {F0 : Nat → Bool} {os : List (Nat → Bool)} {b : Nat} : pf F0 os b = true ↔ F0 b = true ∨ ∃ (i : Nat) (o : Nat → Bool), os[i]? = some o ∧ o b = true := by
  unfold pf
  rw [Bool.or_eq_true, List.any_eq_true]
  refine or_congr Iff.rfl ⟨fun ⟨o, ho, hb⟩ => ?_, fun ⟨i, o, ho, hb⟩ => ⟨o, List.mem_of_getElem? ho, hb⟩⟩
  obtain ⟨i, hi, he⟩ := List.getElem_of_mem ho
  exact ⟨i, o, by rw [List.getElem?_eq_getElem hi, he], hb⟩
def Apart (os : List (Nat → Bool)) : Prop := ∀ (i j : Nat) (o u : Nat → Bool), os[i]? = some o → os[j]? = some u → i ≠ j → ∀ b, o b = true → u b = false
theorem apart_nil : Apart [] := fun i j o u h => by simp at h
theorem apart_erase {os : List (Nat → Bool)} (h : Apart os) (k : Nat) : Apart (os.eraseIdx k) := by
  intro i j o u hi hj hij
  rw [List.getElem?_eraseIdx] at hi hj
  refine h (if i < k then i else i + 1) (if j < k then j else j + 1) o u ?_ ?_ (by split <;> split <;> omega)
  · split at hi
    · rename_i hh; rw [if_pos hh]; exact hi
    · rename_i hh; rw [if_neg hh]; exact hi
  · split at hj
    · rename_i hh; rw [if_pos hh]; exact hj
    · rename_i hh; rw [if_neg hh]; exact hj
/-- One owner's blocks turned into others: some of its own, or new ones. -/
theorem apart_set {os : List (Nat → Bool)} {F0 : Nat → Bool} {k N : Nat} {o o' : Nat → Bool} (h : Apart os) (hk : os[k]? = some o) (hlt : ∀ b, pf F0 os b = true → b < N) (ho : ∀ b, o' b = true → o b = true ∨ N ≤ b) : Apart (os.set k o') := by
  intro i j x y hi hj hij b hb
  rw [List.getElem?_set] at hi hj
  have hkl : k < os.length := (List.getElem?_eq_some_iff.1 hk).1
  by_cases hik : k = i
  · have hjk : ¬ k = j := fun e => hij (hik ▸ e)
    rw [if_pos hik, if_pos (hik ▸ hkl)] at hi
    rw [if_neg hjk] at hj
    cases hi
    rcases ho b hb with h1 | h1
    · exact h k j o y hk hj hjk b h1
    · cases hy : y b with
      | false => rfl
      | true => have := hlt b (pf_iff.2 (.inr ⟨j, y, hj, hy⟩)); omega
  · rw [if_neg hik] at hi
    by_cases hjk : k = j
    · rw [if_pos hjk, if_pos (hjk ▸ hkl)] at hj
      cases hj
      cases hy : o' b with
      | false => rfl
      | true =>
        rcases ho b hy with h1 | h1
        · have := h i k x o hi hk (fun e => hik e.symm) b hb
          rw [h1] at this; cases this
        · have := hlt b (pf_iff.2 (.inr ⟨i, x, hi, hb⟩)); omega
    · rw [if_neg hjk] at hj
      exact h i j x y hi hj hij b hb
theorem apart_push {os : List (Nat → Bool)} {F0 : Nat → Bool} {N : Nat} {o' : Nat → Bool} (h : Apart os) (hlt : ∀ b, pf F0 os b = true → b < N) (ho : ∀ b, o' b = true → N ≤ b) : Apart (os ++ [o']) := by
  intro i j x y hi hj hij b hb
  rw [List.getElem?_append] at hi hj
  split at hi
  · split at hj
    · exact h i j x y hi hj hij b hb
    · rename_i h1 h2
      have hy : y = o' := by
        cases hjj : j - os.length with
        | zero => rw [hjj] at hj; simpa using hj.symm
        | succ q => rw [hjj] at hj; simp at hj
      subst hy
      cases hq : y b with
      | false => rfl
      | true => have := ho b hq; have := hlt b (pf_iff.2 (.inr ⟨i, x, hi, hb⟩)); omega
  · rename_i h1
    have hx : x = o' ∧ i = os.length := by
      cases hii : i - os.length with
      | zero => rw [hii] at hi; exact ⟨by simpa using hi.symm, by omega⟩
      | succ q => rw [hii] at hi; simp at hi
    obtain ⟨rfl, rfl⟩ := hx
    split at hj
    · cases hq : y b with
      | false => rfl
      | true => have := ho b hb; have := hlt b (pf_iff.2 (.inr ⟨j, y, hj, hq⟩)); omega
    · exfalso
      cases hjj : j - os.length with
      | zero => omega
      | succ q => rw [hjj] at hj; simp at hj
/-- What is seen when one owner's blocks have turned. -/
theorem vw_turn {F0 : Nat → Bool} {os : List (Nat → Bool)} {k : Nat} {o o' : Nat → Bool} {w w' : World} (hk : os[k]? = some o) (hblk : ∀ b, b < w.heap.size → o b = false → w'.heap[b]? = w.heap[b]?) (ho : ∀ b, o' b = true → o b = true ∨ w.heap.size ≤ b) :
    Mem.le (vw (pf F0 os) w) (vw (pf F0 (os.set k o')) w') := by
  intro a u e
  unfold vw at e ⊢
  split at e
  · cases e
  · rename_i hf
    have hlt := cell_lt e
    have hno : o a.block = false := by
      cases hq : o a.block with
      | false => rfl
      | true => exact absurd (pf_iff.2 (.inr ⟨k, o, hk, hq⟩)) hf
    have hnot : ¬ pf F0 (os.set k o') a.block = true := by
      intro hh
      rcases pf_iff.1 hh with hh | ⟨i, x, hi, hx⟩
      · exact hf (pf_iff.2 (.inl hh))
      · rw [List.getElem?_set] at hi
        split at hi
        · split at hi
          · cases hi
            rcases ho _ hx with h1 | h1
            · rw [hno] at h1; cases h1
            · omega
          · cases hi
        · exact hf (pf_iff.2 (.inr ⟨i, x, hi, hx⟩))
    rw [if_neg hnot, World.cell?_of_block (hblk a.block hlt hno)]
    exact e
theorem pf_erase {F0 : Nat → Bool} {os : List (Nat → Bool)} {k b : Nat} (h : pf F0 (os.eraseIdx k) b = true) : pf F0 os b = true := by
  rcases pf_iff.1 h with h | ⟨i, o, hi, hb⟩
  · exact pf_iff.2 (.inl h)
  · rw [List.getElem?_eraseIdx] at hi
    split at hi
    · exact pf_iff.2 (.inr ⟨i, o, hi, hb⟩)
    · exact pf_iff.2 (.inr ⟨i + 1, o, hi, hb⟩)
structure Own {α : Type} [Enc α] (E : TypeId) (B : Nat) (c : Mem) (w : World) (v : Value) (xs : List α) : Prop where
  row : ∃ cells, w.ownsRow B E (Enc.size α) v xs.length cells ∧ RepL c cells xs
theorem own_nil {α : Type} [Enc α] {E B : Nat} {c : Mem} {w : World} : Own E B c w (.slice none 0 0) ([] : List α) := ⟨⟨[], World.ownsRow_nil w B E _, rfl⟩⟩
theorem own_kept {α : Type} [Enc α] {E B : Nat} {c c' : Mem} {w w' : World} {v : Value} {xs : List α} (h : Own E B c w v xs) (hc : Mem.le c c') (hb : ∀ k, ob v k = true → w'.heap[k]? = w.heap[k]?) : Own E B c' w' v xs := by
  obtain ⟨cells, hr, hl⟩ := h.row
  refine ⟨cells, ⟨hr.1, ?_⟩, hl.mono hc⟩
  rcases hr.2 with h1 | ⟨g, cap, cur, rfl, h2, h3, h4⟩
  · exact .inl h1
  · exact .inr ⟨g, cap, cur, rfl, h2, (hb g (ob_iff.2 rfl)).trans h3, h4⟩
theorem own_lt {α : Type} [Enc α] {E B : Nat} {c : Mem} {w : World} {v : Value} {xs : List α} (h : Own E B c w v xs) {k : Nat} (hk : ob v k = true) : B ≤ k ∧ k < w.heap.size := by
  obtain ⟨cells, hr, _⟩ := h.row
  exact hr.lt k (ob_iff.1 hk)
theorem own_below {α : Type} [Enc α] {E B : Nat} {F : Nat → Bool} {w w' : World} {v : Value} {xs : List α} (h : Own E B (vw F w) w v xs) (hb : Below w.heap.size w w') : Own E B (vw F w') w' v xs :=
  own_kept h (vw_below hb) fun _ hk => hb.block _ (own_lt h hk).2
/-- What is written no more reads as a slice. -/
theorem own_free {α : Type} [Enc α] {E B : Nat} {F0 F : Nat → Bool} {w : World} {v : Value} {xs : List α} (h : Own E B (vw F w) w v xs) (hF : ∀ b, F0 b = true → F b = true)
    (hg : ∀ k, v.ownBlock = some k → F0 k = false) : (isV xs).p (v2 F0 w) v := by
  obtain ⟨cells, hr, hl⟩ := h.row
  obtain ⟨hlen, hcase⟩ := hr
  rcases hcase with ⟨rfl, h0⟩ | ⟨g, cap, cur, rfl, hBg, hheap, hncap, hcm, hcs, htake⟩
  · have : xs = [] := List.eq_nil_of_length_eq_zero h0
    subst this
    exact .inl ⟨none, 0, rfl, Nat.zero_le _, rfl⟩
  · refine .inr ⟨g, 0, cap, rfl, hncap, hcm, fun i hi => ?_⟩
    obtain ⟨vs, hrep, hv⟩ := hl.get i hi
    refine ⟨vs, Enc.mono (vw_less hF) hrep, fun j u e => ?_⟩
    have h1 := hv j u e
    rw [Nat.zero_add]
    show vw F0 w _ = _
    unfold vw
    have hg' : F0 g = false := hg g rfl
    rw [if_neg (by simp [hg'])]
    rw [cell_of_row w g _ cur E (0, 0) hheap]
    rw [← htake, List.getElem?_take] at h1
    split at h1
    · simpa using h1
    · cases h1
/-! ### facts that do not look at what is written -/
def AllC : List (Nat × Pr) → Prop
  | [] => True
  | e :: r => (∀ (c m m' : Mem) (v : Value), e.2.p ⟨c, m⟩ v → e.2.p ⟨c, m'⟩ v) ∧ AllC r
theorem allC_lk : ∀ {Γ : List (Nat × Pr)}, AllC Γ → ∀ {t : Nat} {φ : Pr}, lk Γ t = some φ → ∀ (c m m' : Mem) (v : Value), φ.p ⟨c, m⟩ v → φ.p ⟨c, m'⟩ v
  | [], _, t, φ, e => by cases e
  | (d, ψ) :: r, h, t, φ, e => by
    unfold lk at e
    cases hb : Nat.beq d t with
    | true => rw [hb] at e; simp only [cond_true, Option.some.injEq] at e; subst e; exact h.1
    | false => rw [hb] at e; exact allC_lk h.2 e
theorem At.turn {n : Nat} {Γ : List (Nat × Pr)} {F F' : Nat → Bool} {a : Act} {w w' : World} (h : At n F Γ a w) (hC : AllC Γ) (hc : Mem.le (vw F w) (vw F' w')) (ho : ∀ b, F' b = true → b < w'.heap.size) : At n F' Γ a w' :=
  ⟨h.size, h.defers, ho, fun t φ e => by
    have := φ.mono (c := v2 F w) (c' := ⟨vw F' w', w.cell?⟩) ⟨hc, Mem.le_refl _⟩ (h.sat t φ e)
    exact allC_lk hC e (vw F' w') w.cell? w'.cell? _ this⟩
theorem At.put {n : Nat} {Γ : List (Nat × Pr)} {F : Nat → Bool} {a : Act} {w : World} (h : At n F Γ a w) {d : Nat} {v : Value} {φ : Pr} (hd : d < n) (hv : φ.p (v2 F w) v) : At n F ((d, φ) :: Γ) (a.put (some d) v) w :=
  ⟨(put_size _ _ _).trans h.size, (put_defers' _ _ _).trans h.defers, h.own, h.sat.put (d := some d) (fun q hq => by cases hq; rw [h.size]; exact hd) hv⟩

section
variable {P : Program} {Γ : List (Nat × Pr)} {ty : TypeId}
/-! ### operations one by one, in a region that does not draw -/
theorem lc {ops : Array Oper} {d n : Nat} {op : Op} {t : TypeId} {ps : String} {af : Array Edge} {g : Option (Nat × Bool)} {r : List Oper} {φ : Pr} {F : Nat → Bool} {a : Act} {w w0 : World} {Q : Exit → Act → World → Prop}
    (ha : At n F Γ a w) (hB : Below w0.heap.size w0 w) (h : StepG P ops ⟨some d, op, t, ps, af, g⟩ Γ φ) (hd : Nat.blt d n = true)
    (k : ∀ a' w', Below w.heap.size w w' → Below w0.heap.size w0 w' → At n F ((d, φ) :: Γ) a' w' → wpList P ops Q r a' w') : wpList P ops Q (⟨some d, op, t, ps, af, g⟩ :: r) a w := by
  have := wpList_seq (P := P) (ops := ops) (Q := Q) (rest := r) (l := [⟨some d, op, t, ps, af, g⟩]) (Γ := Γ) (Γ' := (d, φ) :: Γ) (n := n) (F := F) (a := a) (w := w) ⟨φ, h, rfl⟩
    (by simp [dstsIn, hd]) ha (fun a' w' hb ha' => k a' w' hb (below_trans' hB hb) ha')
  simpa using this
theorem l_start {id : Nat} {ops : Array Oper} {Q : Exit → Act → World → Prop} {a : Act} {w : World} (h : wpList P ops Q ops.toList a w) : (Code.region id ops false).wp P Q a w := wp_region_list h
theorem l_end {ops : Array Oper} {Q : Exit → Act → World → Prop} {a : Act} {w : World} (h : Q .normal a w) : wpList P ops Q [] a w := h
/-- Element types: their zero value and how wide they are. -/
structure ZeroP (P : Program) (E : TypeId) (α : Type) [Enc α] : Prop where
  out : ∃ i z, P.info? E = some i ∧ i.zero = some z ∧ i.size = Enc.size α ∧ z.cells.size = Enc.size α ∧ 0 < Enc.size α ∧ i.bytes ≤ 16384
theorem ZeroP.mk' {E : TypeId} {α : Type} [Enc α] (h : (P.info? E).map (fun i => (i.zero.map (·.cells.size), i.size, Nat.blt 0 (Enc.size α), Nat.ble i.bytes 16384)) = some (some (Enc.size α), Enc.size α, true, true)) : ZeroP P E α := by
  cases hi : P.info? E with
  | none => rw [hi] at h; cases h
  | some i =>
    rw [hi] at h
    simp only [Option.map_some, Option.some.injEq, Prod.mk.injEq] at h
    obtain ⟨h1, h2, h3, h4⟩ := h
    cases hz : i.zero with
    | none => rw [hz] at h1; cases h1
    | some z =>
      rw [hz] at h1
      exact ⟨i, z, hi, hz, h2, by simpa using h1, by simpa [Nat.blt_eq] using h3, Nat.le_of_ble_eq_true h4⟩
theorem app_some {α : Type} {xs ys zs : List α} (h : app xs ys = some zs) : zs = xs ++ ys ∧ xs.length + ys.length ≤ 4294967296 := by
  unfold app at h
  split at h
  · rename_i hl; cases h; exact ⟨rfl, hl⟩
  · cases h
/-- The append itself: where the new slice lies. -/
theorem run_append {T E : TypeId} {α : Type} [Enc α] (hT : SlP P T E α) (hz : ZeroP P E α) {B : Nat} {F0 : Nat → Bool} {w : World} {v y : Value} {os : List (Nat → Bool)} {k : Nat} {xs ys zs : List α}
    (hk : os[k]? = some (ob v)) (hB : B ≤ w.heap.size)
    (hO : Own E B (vw (pf F0 os) w) w v xs) (hy : val (vw (pf F0 os) w) y ys) (happ : app xs ys = some zs) (ty : TypeId) :
    ∃ v' w', (Builtin.append_ #[T, T] ty #[v, y]).run P w = .ok v' w' ∧ Own E B (vw (pf F0 (os.set k (ob v'))) w') w' v' zs ∧ Below B w w' ∧ (v'.ownBlock = v.ownBlock ∨ v'.ownBlock = some w.heap.size) ∧
      w.grownBy w' v.ownBlock ∧ Mem.le (vw (pf F0 os) w) (vw (pf F0 (os.set k (ob v'))) w') := by
  obtain ⟨rfl, hle⟩ := app_some happ
  obtain ⟨i, z, hi, hzz, hsz, hzs, hpos, hby⟩ := hz.out
  obtain ⟨cells, hown, hrl⟩ := hO.row
  have hsl : slice (vw (pf F0 os) w) y ys := hy
  -- the source's cells
  obtain ⟨ad, m, cc, rfl, hm, news, hnl, hnr, hnc⟩ : ∃ (ad : Option Addr) (m cc : Nat), y = .slice ad m cc ∧ m = ys.length ∧ ∃ news, news.length = m * Enc.size α ∧ RepL (vw (pf F0 os) w) news ys ∧
      ∀ j u, news[j]? = some u → ∃ x, ad = some x ∧ w.cell? (x.add j) = some u := by
    rcases hsl with ⟨a0, cap, rfl, _, rfl⟩ | ⟨b, off, cap, rfl, _, _, hh⟩
    · exact ⟨a0, 0, cap, rfl, rfl, [], by simp, rfl, fun j u e => by simp at e⟩
    · obtain ⟨cs, h1, h2⟩ := slice_cells (c := vw (pf F0 os) w) (b := b) (off := off) ys 0 (fun i hi => by simpa using hh i hi)
      refine ⟨_, _, cap, rfl, rfl, cs, RepL.len h1, h1, fun j u e => ⟨_, rfl, ?_⟩⟩
      have := vw_cell (h2 j u e)
      rw [Addr.add_lit]; simpa using this
  have hn1 : ∀ u ∈ news, u.oneCell' = true := hnr.cell
  have h63 : xs.length + m ≤ maxLen := by unfold maxLen; omega
  have hbytes : (xs.length + m) * i.bytes ≤ 140737488355328 := by
    have : (xs.length + m) * i.bytes ≤ 4294967296 * 16384 := Nat.mul_le_mul (by omega) hby
    omega
  -- the world behind: what reads as it did
  have hview : ∀ (v' : Value) (w' : World), w.grownBy w' v.ownBlock → (v'.ownBlock = v.ownBlock ∨ v'.ownBlock = some w.heap.size) → Mem.le (vw (pf F0 os) w) (vw (pf F0 (os.set k (ob v'))) w') := by
    intro v' w' hg hv'
    refine vw_turn hk (fun b hb hob => hg.block b hb (fun e => ?_)) (fun b hb => ?_)
    · rw [ob_iff.2 e.symm] at hob; cases hob
    · rcases hv' with e | e
      · exact .inl (by unfold ob at hb ⊢; rw [e] at hb; exact hb)
      · have := ob_iff.1 hb; rw [e] at this; cases this; exact .inr (Nat.le_refl _)
  have hfin : ∀ (v' : Value) (w' : World), (Builtin.append_ #[T, T] ty #[v, .slice ad m cc]).run P w = .ok v' w' → w'.ownsRow B E (Enc.size α) v' (xs.length + m) (cells ++ news) → w.grownBy w' v.ownBlock → w.drawn ≤ w'.drawn → (v'.ownBlock = v.ownBlock ∨ v'.ownBlock = some w.heap.size) →
      ∃ v' w', (Builtin.append_ #[T, T] ty #[v, .slice ad m cc]).run P w = .ok v' w' ∧ Own E B (vw (pf F0 (os.set k (ob v'))) w') w' v' (xs ++ ys) ∧ Below B w w' ∧ (v'.ownBlock = v.ownBlock ∨ v'.ownBlock = some w.heap.size) ∧ w.grownBy w' v.ownBlock ∧ Mem.le (vw (pf F0 os) w) (vw (pf F0 (os.set k (ob v'))) w') := by
    intro v' w' hr ho hg hdr hv'
    refine ⟨v', w', hr, ⟨cells ++ news, by rw [List.length_append, ← hm]; exact ho, (hrl.mono (hview v' w' hg hv')).append (hnr.mono (hview v' w' hg hv'))⟩, ?_, hv', hg, hview v' w' hg hv'⟩
    exact (Below.refl B w).grown hg hdr hB (fun k hk => (hown.lt k hk).1)
  have grown : ∀ (old : Nat), old < xs.length + m → ∀ (row : Option Nat),
      (w.drew.alloc (.cells (cells.toArray ++ news.toArray ++ Builtin.zeroCells z.cells (grownCap w (xs.length + m) old E - (xs.length + m))) E)).ownsRow B E (Enc.size α)
        (.slice (some ⟨w.heap.size, 0, none⟩) (xs.length + m) (grownCap w (xs.length + m) old E)) (xs.length + m) (cells ++ news) ∧
      w.grownBy (w.drew.alloc (.cells (cells.toArray ++ news.toArray ++ Builtin.zeroCells z.cells (grownCap w (xs.length + m) old E - (xs.length + m))) E)) row := by
    intro old ho row
    have hge := grownCap_ge w (xs.length + m) old E
    have hcm : grownCap w (xs.length + m) old E ≤ maxLen := grownCap_le_maxLen w (xs.length + m) old E h63
    have hlen : (cells ++ news).length = (xs.length + m) * Enc.size α := by rw [List.length_append, hown.1, hnl, Nat.add_mul]
    refine ⟨⟨hlen, .inr ⟨w.heap.size, _, _, rfl, hB, heap_alloc_new w.drew _, hge, hcm, ?_, ?_⟩⟩, ⟨rfl, rfl, rfl, by simp, fun k hk _ => by show (w.alloc _).heap[k]? = _; exact Go.RowKit.Below.heap_alloc w _ k hk⟩⟩
    · simp only [Array.size_append, List.size_toArray, size_zeroCells, hzs, hown.1, hnl, ← Nat.add_mul]
      congr 1
      omega
    · simp only [Array.toList_append, List.append_assoc]
      rw [← List.append_assoc, ← hlen]
      exact List.take_left
  rcases hown.2 with ⟨rfl, hx0⟩ | ⟨g, cap, cur, rfl, hbg, hg, hnc', hcm, hcs, htake⟩
  · have hcn : cells = [] := List.eq_nil_of_length_eq_zero (by rw [hown.1, hx0]; simp)
    subst hcn
    by_cases hm0 : m = 0
    · have hnn : news = [] := List.eq_nil_of_length_eq_zero (by rw [hnl, hm0]; simp)
      subst hnn
      refine hfin (.slice none 0 0) w ?_ ?_ ⟨rfl, rfl, rfl, Nat.le_refl _, fun _ _ _ => rfl⟩ (Nat.le_refl _) (.inl rfl)
      · rw [hm0]
        cases ad <;> simp [Builtin.append_, run_underlying hT.desc, sizeOf, typeInfo, hi, Builtin.lenOf, Builtin.firstCells, loadCells, loadCellsFrom]
      · rw [hx0, hm0]; exact World.ownsRow_nil w B E _
    · obtain ⟨x, rfl⟩ : ∃ x, ad = some x := by
        have h0 : 0 < news.length := by rw [hnl]; exact Nat.mul_pos (by omega) hpos
        obtain ⟨x, hx, _⟩ := hnc 0 news[0] (by simp)
        exact ⟨x, hx⟩
      have hnews : ∀ j u, news[j]? = some u → w.cell? (x.add j) = some u := fun j u e => by obtain ⟨x', hx', hc'⟩ := hnc j u e; cases hx'; exact hc'
      have hr := run_append_nil (P := P) w T ty E i z hT.desc hi hzz x m cc news (by rw [hnl, hsz]) hnews (by omega) (by omega) (by have hb := hbytes; rw [hx0, Nat.zero_add] at hb; omega)
      have hgr := grown 0 (by omega) (Value.ownBlock (.slice none 0 0))
      rw [hx0] at hgr
      simp only [Nat.zero_add, List.nil_append, Array.empty_append] at hgr
      refine hfin _ _ hr ?_ hgr.2 (Nat.le_succ _) (.inr rfl)
      rw [hx0]; simpa using hgr.1
  · by_cases hroom : xs.length + m ≤ cap
    · have hlen : (cells ++ news).length = (xs.length + m) * Enc.size α := by rw [List.length_append, hown.1, hnl, Nat.add_mul]
      have hfit : xs.length * i.size + news.length ≤ cur.size := by rw [hnl, hcs, hsz, ← Nat.add_mul]; exact Nat.mul_le_mul_right _ hroom
      by_cases hm0 : m = 0
      · have hnn : news = [] := List.eq_nil_of_length_eq_zero (by rw [hnl, hm0]; simp)
        subst hnn
        refine hfin (.slice (some ⟨g, 0, none⟩) xs.length cap) w ?_ ?_ ⟨rfl, rfl, rfl, Nat.le_refl _, fun _ _ _ => rfl⟩ (Nat.le_refl _) (.inl rfl)
        · rw [hm0]
          have hle' : xs.length ≤ cap := hnc'
          cases ad <;> simp [Builtin.append_, run_underlying hT.desc, sizeOf, typeInfo, hi, Builtin.lenOf, Builtin.firstCells, loadCells, loadCellsFrom, hle', storeCells]
        · rw [hm0]; simpa using hown
      · obtain ⟨x, rfl⟩ : ∃ x, ad = some x := by
          have h0 : 0 < news.length := by rw [hnl]; exact Nat.mul_pos (by omega) hpos
          obtain ⟨x, hx, _⟩ := hnc 0 news[0] (by simp)
          exact ⟨x, hx⟩
        have hnews : ∀ j u, news[j]? = some u → w.cell? (x.add j) = some u := fun j u e => by obtain ⟨x', hx', hc'⟩ := hnc j u e; cases hx'; exact hc'
        have hr := run_append_room (P := P) w T ty E i hT.desc hi g xs.length cap cur hg x m cc news (by rw [hnl, hsz]) hnews hn1 hroom hfit
        refine hfin _ _ hr ⟨hlen, .inr ⟨g, cap, _, rfl, hbg, setRow_heap w g cur _ E _ hg, hroom, hcm, ?_, ?_⟩⟩ ⟨rfl, rfl, rfl, by simp, fun k _ hk => setRow_other w g k _ (fun e => hk (by simp [Value.ownBlock, e]))⟩ (Nat.le_refl _) (.inl rfl)
        · simp only [List.size_toArray, List.length_append, List.length_take, List.length_drop, Array.length_toList]
          omega
        · rw [hsz, htake, ← hlen]
          exact List.take_left
    · obtain ⟨x, rfl⟩ : ∃ x, ad = some x := by
        have hm0 : m ≠ 0 := by intro hm0; rw [hm0] at hroom; omega
        have h0 : 0 < news.length := by rw [hnl]; exact Nat.mul_pos (by omega) hpos
        obtain ⟨x, hx, _⟩ := hnc 0 news[0] (by simp)
        exact ⟨x, hx⟩
      have hnews : ∀ j u, news[j]? = some u → w.cell? (x.add j) = some u := fun j u e => by obtain ⟨x', hx', hc'⟩ := hnc j u e; cases hx'; exact hc'
      have holds : ∀ j u, cells[j]? = some u → w.cell? ((⟨g, 0, none⟩ : Addr).add j) = some u := hown.cells (g := g) rfl
      have hr := run_append_grow (P := P) w T ty E i z hT.desc hi hzz ⟨g, 0, none⟩ xs.length cap cells (by rw [hown.1, hsz]) holds x m cc news (by rw [hnl, hsz]) hnews (by omega) (by omega) (growslice_fits (by omega) hbytes)
      have hgr := grown cap (by omega) (Value.ownBlock (.slice (some ⟨g, 0, none⟩) xs.length cap))
      exact hfin _ _ hr hgr.1 hgr.2 (Nat.le_succ _) (.inr rfl)
/-- 'd = append(x, y...)' on a slice of the call's own. -/
theorem l_append {ops : Array Oper} {d n k : Nat} {x y : Operand} {T E : TypeId} {α : Type} [Enc α] {t : TypeId} {ps : String} {af : Array Edge} {r : List Oper} {F0 : Nat → Bool} {os : List (Nat → Bool)} {a : Act} {w w0 : World} {Q : Exit → Act → World → Prop} {v : Value} {xs ys zs : List α}
    (hT : SlP P T E α) (hz : ZeroP P E α) (hk : os[k]? = some (ob v)) (hA : At n (pf F0 os) Γ a w) (hB : Below w0.heap.size w0 w) (hD : Apart os) (hO : Own E w0.heap.size (vw (pf F0 os) w) w v xs)
    (hC : AllC Γ) (hx : Od Γ x (Pr.is v)) (hy : Od Γ y (isV ys)) (happ : app xs ys = some zs) (hd : Nat.blt d n = true)
    (K : ∀ a' w' v', Below w0.heap.size w0 w' → At n (pf F0 (os.set k (ob v'))) ((d, Pr.is v') :: Γ) a' w' → Apart (os.set k (ob v')) → Own E w0.heap.size (vw (pf F0 (os.set k (ob v'))) w') w' v' zs →
      (∀ b, b < w.heap.size → ob v b = false → w'.heap[b]? = w.heap[b]?) → Mem.le (vw (pf F0 os) w) (vw (pf F0 (os.set k (ob v'))) w') → (∀ b, ob v' b = true → ob v b = true ∨ w.heap.size ≤ b) → w.heap.size ≤ w'.heap.size → wpList P ops Q r a' w') :
    wpList P ops Q (⟨some d, .call { callee := .builtin .append, args := #[x, y], argTypes := #[T, T] }, t, ps, af, none⟩ :: r) a w := by
  have hm : ∀ xs, Met Γ xs (v2 (pf F0 os) w) a := hA.met
  have hxv : a.eval x = v := hx.get (hm (Op.operands (.call { callee := .builtin .append, args := #[x, y], argTypes := #[T, T] })).toList) (by simp [Op.operands, Call.operands])
  have hyv : val (vw (pf F0 os) w) (a.eval y) ys := hy.get (hm (Op.operands (.call { callee := .builtin .append, args := #[x, y], argTypes := #[T, T] })).toList) (by simp [Op.operands, Call.operands])
  obtain ⟨v', w', hr, hO', hB', hv', hg, hle⟩ := run_append (P := P) hT hz (ys := ys) hk hB.size hO hyv happ t
  have hrun : (execOp a.eval ⟨some d, .call { callee := .builtin .append, args := #[x, y], argTypes := #[T, T] }, t, ps, af, none⟩).run P w = .ok (.value v') w' := by
    simp [execOp, resolve, invoke, builtin, hxv, hr]
  unfold wpList
  simp only [Region.wanted, if_true]
  refine .inl (wp_of_ex ?_)
  unfold Ex
  rw [hrun]
  have hob : ∀ b, ob v' b = true → ob v b = true ∨ w.heap.size ≤ b := fun b hb => by
    rcases hv' with e | e
    · exact .inl (by unfold ob at hb ⊢; rw [e] at hb; exact hb)
    · have := ob_iff.1 hb; rw [e] at this; cases this; exact .inr (Nat.le_refl _)
  refine K _ _ v' (hB.trans hB') ((hA.turn hC hle fun b hb => ?_).put (by simpa [Nat.blt_eq] using hd) rfl) (apart_set hD hk hA.own hob) hO' (fun b hb hq => hg.block b hb (fun e => by rw [ob_iff.2 e.symm] at hq; cases hq)) hle hob hg.size
  rcases pf_iff.1 hb with hb | ⟨i, o, hi, ho⟩
  · exact Nat.lt_of_lt_of_le (hA.own b (pf_iff.2 (.inl hb))) hB'.size
  · rw [List.getElem?_set] at hi
    split at hi
    · split at hi
      · cases hi; exact (own_lt hO' ho).2
      · cases hi
    · exact Nat.lt_of_lt_of_le (hA.own b (pf_iff.2 (.inr ⟨i, o, hi, ho⟩))) hB'.size
end
end Go.Proofs.Ytkbilbeaedocjaa.Wh
