/-
  What is proved: variables in memory that are set anew; tables (slices of slices) that a call makes itself and writes.
-/
import Derived.Test.YtkbilbeaedocjaaMore
import Derived.Test.YtkbilbeaedocjaaTail
namespace Go.Proofs.Ytkbilbeaedocjaa.Wh
open Go Go.RowKit

theorem run_load_cells {P : Program} {T : TypeId} {α : Type} [Enc α] (hT : TyP P T α) {c : Mem} {w : World} {b off : Nat} {x : α} {vs : List Value} (hr : Enc.rep c vs x) (hv : ∀ j v, vs[j]? = some v → w.cell? ⟨b, off + j, none⟩ = some v) :
    ∃ v, (loadVar T ⟨b, off, none⟩).run P w = .ok v w ∧ val c v x := by
  have hl := Enc.len hr
  unfold loadVar
  simp only [Sem.run_bind, hT.isAgg w, Result.andThen]
  cases ha : Enc.agg α with
  | false =>
    have h1 := Enc.one (α := α) ha
    rw [h1] at hl
    obtain ⟨v, rfl⟩ : ∃ v, vs = [v] := by
      match vs, hl with
      | [v], _ => exact ⟨v, rfl⟩
    refine ⟨v, ?_, ?_⟩
    · have := hv 0 v rfl
      simp at this
      simp [this]
    · unfold val; rw [ha]; exact hr
  | true =>
    refine ⟨.agg vs.toArray, ?_, ?_⟩
    · have := run_loadCells_list (P := P) w ⟨b, off, none⟩ vs (fun j v e => by rw [Addr.add_lit]; exact hv j v e)
      rw [hl] at this
      simp [hT.sizeOf w, this]
    · unfold val; rw [ha]; exact ⟨vs, rfl, hr⟩

/-! ### variables in memory -/
def bx (b : Nat) : Nat → Bool := fun k => Nat.beq k b
theorem bx_iff {b k : Nat} : bx b k = true ↔ k = b := by unfold bx; exact ⟨Nat.eq_of_beq_eq_true, fun h => by subst h; simp⟩
def Pr.ptr (b : Nat) : Pr := Pr.is (.pointer (some ⟨b, 0, none⟩))
structure OwnB {α : Type} [Enc α] (T : TypeId) (B : Nat) (c : Mem) (w : World) (b : Nat) (x : α) : Prop where
  out : ∃ cur, w.heap[b]? = some (.cells cur T (0, 0)) ∧ Enc.rep c cur.toList x
  ge : B ≤ b
theorem ownB_lt {α : Type} [Enc α] {T : TypeId} {B : Nat} {c : Mem} {w : World} {b : Nat} {x : α} (h : OwnB T B c w b x) : b < w.heap.size := by
  obtain ⟨cur, h1, _⟩ := h.out
  exact (Array.getElem?_eq_some_iff.1 h1).1
theorem ownB_kept {α : Type} [Enc α] {T : TypeId} {B : Nat} {c c' : Mem} {w w' : World} {b : Nat} {x : α} (h : OwnB T B c w b x) (hc : Mem.le c c') (hb : w'.heap[b]? = w.heap[b]?) : OwnB T B c' w' b x := by
  obtain ⟨cur, h1, h2⟩ := h.out
  exact ⟨⟨cur, hb.trans h1, Enc.mono hc h2⟩, h.ge⟩
theorem ownB_below {α : Type} [Enc α] {T : TypeId} {B : Nat} {F : Nat → Bool} {w w' : World} {b : Nat} {x : α} (h : OwnB T B (vw F w) w b x) (hb : Below w.heap.size w w') : OwnB T B (vw F w') w' b x :=
  ownB_kept h (vw_below hb) (hb.block b (ownB_lt h))
theorem ownB_drop {α : Type} [Enc α] {T : TypeId} {B : Nat} {F0 : Nat → Bool} {os : List (Nat → Bool)} {w : World} {b : Nat} {x : α} (k : Nat) (h : OwnB T B (vw (pf F0 os) w) w b x) : OwnB T B (vw (pf F0 (os.eraseIdx k)) w) w b x :=
  ownB_kept h (vw_less fun _ hb => pf_erase hb) rfl
theorem ownB_push {α : Type} [Enc α] {T : TypeId} {B : Nat} {F0 : Nat → Bool} {os : List (Nat → Bool)} {w : World} {b : Nat} {x : α} (h : OwnB T B (vw (pf F0 os) w) w b x) : OwnB T B (vw (pf F0 (os ++ [ob (.slice none 0 0)])) w) w b x := by rw [pf_push_nil]; exact h
theorem ownB_other {α : Type} [Enc α] {T : TypeId} {B k j : Nat} {os : List (Nat → Bool)} {o : Nat → Bool} {c c' : Mem} {w w' : World} {b : Nat} {x : α} (hD : Apart os) (hk : os[k]? = some o) (hj : os[j]? = some (bx b)) (hkj : Nat.beq j k = false) (h : OwnB T B c w b x)
    (hg : ∀ q, q < w.heap.size → o q = false → w'.heap[q]? = w.heap[q]?) (hc : Mem.le c c') : OwnB T B c' w' b x :=
  ownB_kept h hc (hg b (ownB_lt h) (hD j k _ o hj hk (fun e => by subst e; simp at hkj) b (bx_iff.2 rfl)))
/-- The pointer to such a variable, and what it holds at this moment. -/
def isB {α : Type} [Enc α] (x : α) : Pr := ⟨fun c v => ∃ b off vs, v = .pointer (some ⟨b, off, none⟩) ∧ Enc.rep c.c vs x ∧ ∀ j u, vs[j]? = some u → c.m ⟨b, off + j, none⟩ = some u,
  fun hc h => by obtain ⟨b, off, vs, hv, hr, hh⟩ := h; exact ⟨b, off, vs, hv, Enc.mono hc.1 hr, fun j u e => hc.2 _ _ (hh j u e)⟩⟩
def Pr.boxed {α : Type} [Enc α] (b : Nat) (x : α) : Pr := ⟨fun c v => v = .pointer (some ⟨b, 0, none⟩) ∧ (isB x).p c v, fun hc h => ⟨h.1, (isB x).mono hc h.2⟩⟩
section
variable {P : Program} {Γ : List (Nat × Pr)} {ty : TypeId}
theorem odB {α : Type} [Enc α] {t b : Nat} {x : α} (h : lk Γ t = some (Pr.boxed b x)) : Od Γ (.tmp t) (isB x) := ⟨_, h, fun _ _ k => k.2⟩
theorem at_box {α : Type} [Enc α] {T : TypeId} {B n t b : Nat} {F : Nat → Bool} {a : Act} {w : World} {x : α} (hO : OwnB T B (vw F w) w b x) (h : At n F Γ a w) (e : lk Γ t = some (Pr.ptr b)) : At n F ((t, Pr.boxed b x) :: Γ) a w := by
  refine ⟨h.size, h.defers, h.own, fun s φ hs => ?_⟩
  unfold lk at hs
  cases hb : Nat.beq t s with
  | true =>
    rw [hb] at hs
    simp only [cond_true, Option.some.injEq] at hs
    have := Nat.eq_of_beq_eq_true hb
    subst hs; subst this
    have hv : tmp a t = .pointer (some ⟨b, 0, none⟩) := h.sat t _ e
    obtain ⟨cur, h1, h2⟩ := hO.out
    refine ⟨hv, b, 0, cur.toList, hv, h2, fun j u ej => ?_⟩
    show w.cell? _ = _
    rw [cell_of_row w b _ cur T (0, 0) h1, Nat.zero_add]
    simpa using ej
  | false => rw [hb] at hs; exact h.sat s φ hs
theorem at_unbox {α : Type} [Enc α] {n t b : Nat} {F : Nat → Bool} {a : Act} {w : World} {x : α} (h : At n F Γ a w) (e : lk Γ t = some (Pr.boxed b x)) : At n F ((t, Pr.ptr b) :: Γ) a w := by
  refine ⟨h.size, h.defers, h.own, fun s φ hs => ?_⟩
  unfold lk at hs
  cases hb : Nat.beq t s with
  | true =>
    rw [hb] at hs
    simp only [cond_true, Option.some.injEq] at hs
    have := Nat.eq_of_beq_eq_true hb
    subst hs; subst this
    exact (h.sat t _ e).1
  | false => rw [hb] at hs; exact h.sat s φ hs
theorem sp_loadB {α : Type} [Enc α] {x : Operand} {T : TypeId} {d : α} (hT : TyP P T α) (hx : Od Γ x (isB d)) : StepP P (.load T x) ty Γ (isV d) :=
  step_pure fun c w a hc hm => by
    obtain ⟨b, off, vs, hv, hr, hh⟩ := hx.get hm (by simp [Op.operands])
    obtain ⟨v, hrun, hval⟩ := run_load_cells (P := P) hT hr (fun j u e => hc.2 _ _ (hh j u e))
    exact ⟨v, by simp [execOp, plain, hv, Instr.loadAt, Instr.sureAddr, hrun], hval⟩
theorem sp_fieldAddrB {S α : Type} [Enc S] [Enc α] {x : Operand} {T : TypeId} {k : Nat} {f : S → α} {d : S} (hf : FieldP P T k f) (hx : Od Γ x (isB d)) : StepP P (.fieldAddr T x k) ty Γ (isB (f d)) :=
  step_pure fun c w a hc hm => by
    obtain ⟨b, off, vs, hv, hr, hh⟩ := hx.get hm (by simp [Op.operands])
    obtain ⟨fs, fd, i, h1, h2, h3, h4, h5, h6⟩ := hf.out
    refine ⟨.pointer (some ⟨b, off + fd.offset, none⟩), ?_, b, off + fd.offset, _, rfl, h6 c.c vs d hr, fun j v e => ?_⟩
    · simp [execOp, plain, hv, Instr.fieldAt, run_underlying h1, h2, Instr.sureAddr, fieldPlace, Go.sizeOf, typeInfo, h3, h5, Addr.add_lit]
    · rw [List.getElem?_take] at e
      split at e
      · rw [List.getElem?_drop] at e
        have := hh _ _ e
        rw [Nat.add_assoc]; exact this
      · cases e
structure ZeroIs (P : Program) (T : TypeId) {α : Type} [Enc α] (x : α) : Prop where
  out : ∃ i z, P.info? T = some i ∧ i.zero = some z ∧ ∀ c, Enc.rep c z.cells.toList x
theorem ZeroIs.mk' {T : TypeId} {α : Type} [Enc α] {x : α} {cs : List Value} (h : (P.info? T).map (fun i => i.zero.map (·.cells.toList)) = some (some cs)) (hr : ∀ c, Enc.rep c cs x) : ZeroIs P T x := by
  cases hi : P.info? T with
  | none => rw [hi] at h; cases h
  | some i =>
    rw [hi] at h
    simp only [Option.map_some, Option.some.injEq] at h
    cases hz : i.zero with
    | none => rw [hz] at h; cases h
    | some z =>
      rw [hz] at h
      simp only [Option.map_some, Option.some.injEq] at h
      exact ⟨i, z, hi, hz, fun c => by rw [h]; exact hr c⟩
theorem vw_push {F0 : Nat → Bool} {os : List (Nat → Bool)} {o : Nat → Bool} {w w' : World} (hb : Below w.heap.size w w') (ho : ∀ b, o b = true → w.heap.size ≤ b) : Mem.le (vw (pf F0 os) w) (vw (pf F0 (os ++ [o])) w') := by
  intro a u e
  unfold vw at e ⊢
  split at e
  · cases e
  · rename_i hf
    have hlt := cell_lt e
    rw [if_neg, hb.cell hlt]
    · exact e
    · intro hh
      rcases pf_iff.1 hh with hh | ⟨i, x, hi, hx⟩
      · exact hf (pf_iff.2 (.inl hh))
      · rw [List.getElem?_append] at hi
        split at hi
        · exact hf (pf_iff.2 (.inr ⟨i, x, hi, hx⟩))
        · have : x = o := by
            cases hq : i - os.length with
            | zero => rw [hq] at hi; simpa using hi.symm
            | succ p => rw [hq] at hi; simp at hi
          subst this
          have := ho _ hx
          omega
theorem at_push {n : Nat} {F0 : Nat → Bool} {os : List (Nat → Bool)} {o : Nat → Bool} {a : Act} {w w' : World} (h : At n (pf F0 os) Γ a w) (hb : Below w.heap.size w w') (ho : ∀ b, o b = true → w.heap.size ≤ b ∧ b < w'.heap.size) : At n (pf F0 (os ++ [o])) Γ a w' := by
  refine ⟨h.size, h.defers, fun b hb' => ?_, h.sat.mono ⟨vw_push hb (fun b hb => (ho b hb).1), (v2_below (F := pf F0 os) hb).2⟩⟩
  rcases pf_iff.1 hb' with hh | ⟨i, x, hi, hx⟩
  · exact Nat.lt_of_lt_of_le (h.own b (pf_iff.2 (.inl hh))) hb.size
  · rw [List.getElem?_append] at hi
    split at hi
    · exact Nat.lt_of_lt_of_le (h.own b (pf_iff.2 (.inr ⟨i, x, hi, hx⟩))) hb.size
    · have : x = o := by
        cases hq : i - os.length with
        | zero => rw [hq] at hi; simpa using hi.symm
        | succ p => rw [hq] at hi; simp at hi
      subst this
      exact (ho b hx).2
/-- 'var x T' in memory. -/
theorem l_alloc {ops : Array Oper} {d n : Nat} {T : TypeId} {α : Type} [Enc α] {x0 : α} {t : TypeId} {ps : String} {af : Array Edge} {r : List Oper} {F0 : Nat → Bool} {os : List (Nat → Bool)} {a : Act} {w w0 : World} {Q : Exit → Act → World → Prop}
    (hz : ZeroIs P T x0) (hA : At n (pf F0 os) Γ a w) (hB : Below w0.heap.size w0 w) (hD : Apart os) (hd : Nat.blt d n = true)
    (K : ∀ a' w' b, Below w.heap.size w w' → Below w0.heap.size w0 w' → At n (pf F0 (os ++ [bx b])) ((d, Pr.ptr b) :: Γ) a' w' → Apart (os ++ [bx b]) → OwnB T w0.heap.size (vw (pf F0 (os ++ [bx b])) w') w' b x0 → (∀ q, bx b q = true → w.heap.size ≤ q) →
      Mem.le (vw (pf F0 os) w) (vw (pf F0 (os ++ [bx b])) w') → wpList P ops Q r a' w') :
    wpList P ops Q (⟨some d, .alloc T, t, ps, af, none⟩ :: r) a w := by
  obtain ⟨i, z, hi, hzz, hrep⟩ := hz.out
  have hr1 : (execOp a.eval ⟨some d, .alloc T, t, ps, af, none⟩).run P w = .ok (.value (.pointer (some ⟨w.heap.size, 0, none⟩))) (w.alloc (.cells z.cells T)) := by
    simp [execOp, Instr.alloc, zeroValue, typeInfo, hi, hzz, newVar, newRow]
  unfold wpList
  simp only [Region.wanted, if_true]
  refine .inl (wp_of_ex ?_)
  unfold Ex
  rw [hr1]
  have hbw := below_alloc w (.cells z.cells T)
  have ho : ∀ b, bx w.heap.size b = true → w.heap.size ≤ b ∧ b < (w.alloc (.cells z.cells T)).heap.size := fun b hb => by rw [bx_iff] at hb; subst hb; simp
  refine K _ _ w.heap.size hbw (below_trans' hB hbw) ((at_push hA hbw ho).put (by simpa [Nat.blt_eq] using hd) rfl) (apart_push hD hA.own fun b hb => (ho b hb).1) ⟨⟨z.cells, heap_alloc_new w _, hrep _⟩, hB.size⟩ (fun b hb => (ho b hb).1) (vw_push hbw fun b hb => (ho b hb).1)
/-- 'x = y' in memory. -/
theorem l_store {ops : Array Oper} {n k p b : Nat} {T : TypeId} {y : Operand} {α : Type} [Enc α] {x z : α} {t : TypeId} {ps : String} {af : Array Edge} {r : List Oper} {F0 : Nat → Bool} {os : List (Nat → Bool)} {a : Act} {w w0 : World} {Q : Exit → Act → World → Prop}
    (hT : TyP P T α) (hk : os[k]? = some (bx b)) (hA : At n (pf F0 os) Γ a w) (hB : Below w0.heap.size w0 w) (hO : OwnB T w0.heap.size (vw (pf F0 os) w) w b x) (hC : AllC Γ) (hp : lk Γ p = some (Pr.ptr b)) (hy : Od Γ y (isV z))
    (K : ∀ w', Below w0.heap.size w0 w' → At n (pf F0 os) Γ a w' → OwnB T w0.heap.size (vw (pf F0 os) w') w' b z → (∀ q, q < w.heap.size → bx b q = false → w'.heap[q]? = w.heap[q]?) → Mem.le (vw (pf F0 os) w) (vw (pf F0 os) w') → w.heap.size ≤ w'.heap.size → wpList P ops Q r a w') :
    wpList P ops Q (⟨none, .store T (.tmp p) y, t, ps, af, none⟩ :: r) a w := by
  have hm : ∀ xs, Met Γ xs (v2 (pf F0 os) w) a := hA.met
  have hyv : val (vw (pf F0 os) w) (a.eval y) z := hy.get (hm [y]) (by simp)
  have hpv : a.eval (.tmp p) = .pointer (some ⟨b, 0, none⟩) := hA.sat p _ hp
  obtain ⟨cur, h1, h2⟩ := hO.out
  obtain ⟨i, hi, hsz⟩ := hT.info
  have hcells := val_cells hyv
  have hlen := Enc.len hcells
  have hone := Enc.cell hcells
  have hcur := Enc.len h2
  have hst := run_storeCells_at P b 0 T (a.eval y).cells.toList 0 cur w h1 (by rw [hlen]; simp at hcur; omega) hone
  have hcs : (a.eval y).cells.size = i.size := by rw [hsz, ← hlen]; simp
  have hcat : cur.toList.take 0 ++ (a.eval y).cells.toList ++ cur.toList.drop (0 + (a.eval y).cells.toList.length) = (a.eval y).cells.toList := by
    rw [List.take_zero, List.nil_append, List.drop_eq_nil_of_le (by rw [hlen]; omega), List.append_nil]
  have hr : (execOp a.eval ⟨none, .store T (.tmp p) y, t, ps, af, none⟩).run P w = .ok .skip (w.setRow b (a.eval y).cells.toList.toArray) := by
    simp only [Nat.add_zero] at hst
    rw [hcat] at hst
    simp only [execOp, hpv, Instr.storeAt, Instr.sureAddr, storeVar, Go.sizeOf, typeInfo, Sem.run_bind, run_program, Result.andThen_ok, hi, Sem.run_pure]
    simp [hcs, hst]
  unfold wpList
  simp only [Region.wanted, if_true]
  refine .inl (wp_of_ex ?_)
  unfold Ex
  rw [hr]
  have hblk : ∀ q, q < w.heap.size → bx b q = false → (w.setRow b (a.eval y).cells.toList.toArray).heap[q]? = w.heap[q]? := fun q hq hb => setRow_other _ _ _ _ (fun e => by rw [bx_iff.2 e] at hb; cases hb)
  have hset : os.set k (bx b) = os := by
    apply List.ext_getElem?
    intro j
    rw [List.getElem?_set]
    split
    · rename_i e; subst e; rw [if_pos (List.getElem?_eq_some_iff.1 hk).1, hk]
    · rfl
  have hle : Mem.le (vw (pf F0 os) w) (vw (pf F0 os) (w.setRow b (a.eval y).cells.toList.toArray)) := by
    have := vw_turn (F0 := F0) hk hblk (o' := bx b) (fun q hq => .inl hq)
    rwa [hset] at this
  have hsize : (w.setRow b (a.eval y).cells.toList.toArray).heap.size = w.heap.size := by simp
  refine K _ (hB.trans ⟨rfl, rfl, rfl, by rw [hsize]; exact Nat.le_refl _, fun q hq => setRow_other _ _ _ _ (fun e => by have := hO.ge; omega), Nat.le_refl _⟩) (hA.turn hC hle fun q hq => by rw [hsize]; exact hA.own q hq) ⟨⟨_, setRow_heap w b cur _ T _ h1, Enc.mono hle (by simpa using hcells)⟩, hO.ge⟩ hblk hle (by rw [hsize]; exact Nat.le_refl _)
theorem at_freezeB {α : Type} [Enc α] {T : TypeId} {n t k b : Nat} {F0 : Nat → Bool} {os : List (Nat → Bool)} {a : Act} {w w0 : World} {x : α} (hF0 : ∀ b, F0 b = true → b < w0.heap.size) (hD : Apart os) (hk : os[k]? = some (bx b))
    (hO : OwnB T w0.heap.size (vw (pf F0 os) w) w b x) (h : At n (pf F0 os) Γ a w) (e : lk Γ t = some (Pr.ptr b)) : At n (pf F0 (os.eraseIdx k)) ((t, isA x) :: Γ) a w := by
  have h1 := at_drop k h
  refine ⟨h1.size, h1.defers, h1.own, fun s φ hs => ?_⟩
  unfold lk at hs
  cases hb : Nat.beq t s with
  | true =>
    rw [hb] at hs
    simp only [cond_true, Option.some.injEq] at hs
    have := Nat.eq_of_beq_eq_true hb
    subst hs; subst this
    have hv : tmp a t = .pointer (some ⟨b, 0, none⟩) := h.sat t _ e
    obtain ⟨cur, h2, h3⟩ := hO.out
    refine ⟨b, 0, hv, cur.toList, Enc.mono (vw_less fun _ hb => pf_erase hb) h3, fun j u ej => ?_⟩
    have hn : pf F0 (os.eraseIdx k) b = false := erase_out hD hk (bx_iff.2 rfl) (by
      cases hf : F0 b with
      | false => rfl
      | true => have := hO.ge; have := hF0 b hf; omega)
    show vw _ _ _ = _
    unfold vw
    rw [if_neg (by simp [hn]), cell_of_row w b _ cur T (0, 0) h2, Nat.zero_add]
    simpa using ej
  | false => rw [hb] at hs; exact h1.sat s φ hs
theorem run_cell {α : Type} [Enc α] {T t : Nat} {F : Nat → Bool} {a : Act} {w : World} {x : α} (hT : TyP P T α) (h : (isA x).p (v2 F w) (tmp a t)) :
    ∃ v, (do loadVar T (← asAddr (a.tmps.getD t undef)) : Sem Value).run P w = .ok v w ∧ (isV x).p (v2 F w) v := by
  obtain ⟨b, off, hv, hh⟩ := h
  obtain ⟨v, hr, hval⟩ := run_load_holds (P := P) hT (c := vw F w) (fun _ _ h => vw_cell h) hh
  have hv' : a.tmps.getD t undef = .pointer (some ⟨b, off, none⟩) := hv
  exact ⟨v, by rw [hv']; simp [asAddr, hr], hval⟩
/-- A region whose last operations write. -/
theorem rtail (hm : P.follows .mixedOrders = true) (m : Nat) {id n : Nat} {ops : Array Oper} {draw : Bool} {Q : Exit → Act → World → Prop} {F : Nat → Bool} {a : Act} {w w0 : World}
    (hok : regionOK n ops = true) (htl : tailOK m ops = true) (ha : At n F Γ a w) (hB : Below w0.heap.size w0 w)
    (hs : SeqK P ops (ops.toList.take m) Γ fun Γ' => ∀ a' w', Below w.heap.size w w' → Below w0.heap.size w0 w' → At n F Γ' a' w' → wpList P ops Q (ops.toList.drop m) a' w') : (Code.region id ops draw).wp P Q a w := by
  obtain ⟨Γ', h1, k⟩ := seqK_open hs
  exact wp_tail hm hok htl h1 ha fun a' w' hb ha' => k a' w' hb (below_trans' hB hb) ha'
end
end Go.Proofs.Ytkbilbeaedocjaa.Wh
