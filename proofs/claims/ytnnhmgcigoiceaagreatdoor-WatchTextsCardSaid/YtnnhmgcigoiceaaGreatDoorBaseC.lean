/-
  What is proved: variables in memory that are set anew; tables (slices of slices) that a call makes itself and writes.
  tables (slices of slices) that a call makes itself, reads and writes.
  rows put into tables; elements of own slices set anew.
-/
import Derived.Test.YtnnhmgcigoiceaaGreatDoorBaseB
import Derived.Laws.OwnMore
namespace Go.Proofs.YtnnhmgcigoiceaaGreatDoor.Wh
open Go Go.RowKit

theorem run_load_cells {P : Program} {T : TypeId} {α : Type} [Enc α] (hT : TyP P T α) {c : Mem} {w : World} {b off : Nat} {x : α} {vs : List Value} (hr : Enc.rep c vs x) (hv : ∀ j v, vs[j]? = some v → w.cell? ⟨b, off + j, none⟩ = some v) :
    ∃ v, (loadVar T ⟨b, off, none⟩).run P w = .ok v w ∧ val c v x := by
  have hl := Enc.len hr
  unfold loadVar
  simp only [Sem.run_bind, hT.isAgg w, Result.andThen]
  cases ha : Enc.agg α with
  | false =>
    have h1 := Enc.one (α := α) ha
    rw [h1] at hl
    obtain ⟨v, rfl⟩ : ∃ v, vs = [v] := by
      match vs, hl with
      | [v], _ => exact ⟨v, rfl⟩
    refine ⟨v, ?_, ?_⟩
    · have := hv 0 v rfl
      simp at this
      simp [this]
    · unfold val; rw [ha]; exact hr
  | true =>
    refine ⟨.agg vs.toArray, ?_, ?_⟩
    · have := run_loadCells_list (P := P) w ⟨b, off, none⟩ vs (fun j v e => by rw [Addr.add_lit]; exact hv j v e)
      rw [hl] at this
      simp [hT.sizeOf w, this]
    · unfold val; rw [ha]; exact ⟨vs, rfl, hr⟩

/-! ### variables in memory -/
def bx (b : Nat) : Nat → Bool := fun k => Nat.beq k b
theorem bx_iff {b k : Nat} : bx b k = true ↔ k = b := by unfold bx; exact ⟨Nat.eq_of_beq_eq_true, fun h => by subst h; simp⟩
def Pr.ptr (b : Nat) : Pr := Pr.is (.pointer (some ⟨b, 0, none⟩))
structure OwnB {α : Type} [Enc α] (T : TypeId) (B : Nat) (c : Mem) (w : World) (b : Nat) (x : α) : Prop where
  out : ∃ cur, w.heap[b]? = some (.cells cur T (0, 0)) ∧ Enc.rep c cur.toList x
  ge : B ≤ b
theorem ownB_kept {α : Type} [Enc α] {T : TypeId} {B : Nat} {c c' : Mem} {w w' : World} {b : Nat} {x : α} (h : OwnB T B c w b x) (hc : Mem.le c c') (hb : w'.heap[b]? = w.heap[b]?) : OwnB T B c' w' b x := by
  obtain ⟨cur, h1, h2⟩ := h.out
  exact ⟨⟨cur, hb.trans h1, Enc.mono hc h2⟩, h.ge⟩
/-- The pointer to such a variable, and what it holds at this moment. -/
def isB {α : Type} [Enc α] (x : α) : Pr := ⟨fun c v => ∃ b off vs, v = .pointer (some ⟨b, off, none⟩) ∧ Enc.rep c.c vs x ∧ ∀ j u, vs[j]? = some u → c.m ⟨b, off + j, none⟩ = some u,
  fun hc h => by obtain ⟨b, off, vs, hv, hr, hh⟩ := h; exact ⟨b, off, vs, hv, Enc.mono hc.1 hr, fun j u e => hc.2 _ _ (hh j u e)⟩⟩
def Pr.boxed {α : Type} [Enc α] (b : Nat) (x : α) : Pr := ⟨fun c v => v = .pointer (some ⟨b, 0, none⟩) ∧ (isB x).p c v, fun hc h => ⟨h.1, (isB x).mono hc h.2⟩⟩
section
variable {P : Program} {Γ : List (Nat × Pr)} {ty : TypeId}
theorem odB {α : Type} [Enc α] {t b : Nat} {x : α} (h : lk Γ t = some (Pr.boxed b x)) : Od Γ (.tmp t) (isB x) := ⟨_, h, fun _ _ k => k.2⟩
theorem at_box {α : Type} [Enc α] {T : TypeId} {B n t b : Nat} {F : Nat → Bool} {a : Act} {w : World} {x : α} (hO : OwnB T B (vw F w) w b x) (h : At n F Γ a w) (e : lk Γ t = some (Pr.ptr b)) : At n F ((t, Pr.boxed b x) :: Γ) a w := by
  refine ⟨h.size, h.defers, h.own, fun s φ hs => ?_⟩
  unfold lk at hs
  cases hb : Nat.beq t s with
  | true =>
    rw [hb] at hs
    simp only [cond_true, Option.some.injEq] at hs
    have := Nat.eq_of_beq_eq_true hb
    subst hs; subst this
    have hv : tmp a t = .pointer (some ⟨b, 0, none⟩) := h.sat t _ e
    obtain ⟨cur, h1, h2⟩ := hO.out
    refine ⟨hv, b, 0, cur.toList, hv, h2, fun j u ej => ?_⟩
    show w.cell? _ = _
    rw [cell_of_row w b _ cur T (0, 0) h1, Nat.zero_add]
    simpa using ej
  | false => rw [hb] at hs; exact h.sat s φ hs
theorem sp_loadB {α : Type} [Enc α] {x : Operand} {T : TypeId} {d : α} (hT : TyP P T α) (hx : Od Γ x (isB d)) : StepP P (.load T x) ty Γ (isV d) :=
  step_pure fun c w a hc hm => by
    obtain ⟨b, off, vs, hv, hr, hh⟩ := hx.get hm (by simp [Op.operands])
    obtain ⟨v, hrun, hval⟩ := run_load_cells (P := P) hT hr (fun j u e => hc.2 _ _ (hh j u e))
    exact ⟨v, by simp [execOp, plain, hv, Instr.loadAt, Instr.sureAddr, hrun], hval⟩
theorem sp_fieldAddrB {S α : Type} [Enc S] [Enc α] {x : Operand} {T : TypeId} {k : Nat} {f : S → α} {d : S} (hf : FieldP P T k f) (hx : Od Γ x (isB d)) : StepP P (.fieldAddr T x k) ty Γ (isB (f d)) :=
  step_pure fun c w a hc hm => by
    obtain ⟨b, off, vs, hv, hr, hh⟩ := hx.get hm (by simp [Op.operands])
    obtain ⟨fs, fd, i, h1, h2, h3, h4, h5, h6⟩ := hf.out
    refine ⟨.pointer (some ⟨b, off + fd.offset, none⟩), ?_, b, off + fd.offset, _, rfl, h6 c.c vs d hr, fun j v e => ?_⟩
    · simp [execOp, plain, hv, Instr.fieldAt, run_underlying h1, h2, Instr.sureAddr, fieldPlace, Go.sizeOf, typeInfo, h3, h5, Addr.add_lit]
    · rw [List.getElem?_take] at e
      split at e
      · rw [List.getElem?_drop] at e
        have := hh _ _ e
        rw [Nat.add_assoc]; exact this
      · cases e
structure ZeroIs (P : Program) (T : TypeId) {α : Type} [Enc α] (x : α) : Prop where
  out : ∃ i z, P.info? T = some i ∧ i.zero = some z ∧ ∀ c, Enc.rep c z.cells.toList x
theorem ZeroIs.mk' {T : TypeId} {α : Type} [Enc α] {x : α} {cs : List Value} (h : (P.info? T).map (fun i => i.zero.map (·.cells.toList)) = some (some cs)) (hr : ∀ c, Enc.rep c cs x) : ZeroIs P T x := by
  cases hi : P.info? T with
  | none => rw [hi] at h; cases h
  | some i =>
    rw [hi] at h
    simp only [Option.map_some, Option.some.injEq] at h
    cases hz : i.zero with
    | none => rw [hz] at h; cases h
    | some z =>
      rw [hz] at h
      simp only [Option.map_some, Option.some.injEq] at h
      exact ⟨i, z, hi, hz, fun c => by rw [h]; exact hr c⟩
theorem vw_push {F0 : Nat → Bool} {os : List (Nat → Bool)} {o : Nat → Bool} {w w' : World} (hb : Below w.heap.size w w') (ho : ∀ b, o b = true → w.heap.size ≤ b) : Mem.le (vw (pf F0 os) w) (vw (pf F0 (os ++ [o])) w') := by
  intro a u e
  unfold vw at e ⊢
  split at e
  · cases e
  · rename_i hf
    have hlt := cell_lt e
    rw [if_neg, hb.cell hlt]
    · exact e
    · intro hh
      rcases pf_iff.1 hh with hh | ⟨i, x, hi, hx⟩
      · exact hf (pf_iff.2 (.inl hh))
      · rw [List.getElem?_append] at hi
        split at hi
        · exact hf (pf_iff.2 (.inr ⟨i, x, hi, hx⟩))
        · have : x = o := by
            cases hq : i - os.length with
            | zero => rw [hq] at hi; simpa using hi.symm
            | succ p => rw [hq] at hi; simp at hi
          subst this
          have := ho _ hx
          omega
theorem at_push {n : Nat} {F0 : Nat → Bool} {os : List (Nat → Bool)} {o : Nat → Bool} {a : Act} {w w' : World} (h : At n (pf F0 os) Γ a w) (hb : Below w.heap.size w w') (ho : ∀ b, o b = true → w.heap.size ≤ b ∧ b < w'.heap.size) : At n (pf F0 (os ++ [o])) Γ a w' := by
  refine ⟨h.size, h.defers, fun b hb' => ?_, h.sat.mono ⟨vw_push hb (fun b hb => (ho b hb).1), (v2_below (F := pf F0 os) hb).2⟩⟩
  rcases pf_iff.1 hb' with hh | ⟨i, x, hi, hx⟩
  · exact Nat.lt_of_lt_of_le (h.own b (pf_iff.2 (.inl hh))) hb.size
  · rw [List.getElem?_append] at hi
    split at hi
    · exact Nat.lt_of_lt_of_le (h.own b (pf_iff.2 (.inr ⟨i, x, hi, hx⟩))) hb.size
    · have : x = o := by
        cases hq : i - os.length with
        | zero => rw [hq] at hi; simpa using hi.symm
        | succ p => rw [hq] at hi; simp at hi
      subst this
      exact (ho b hx).2
/-- 'var x T' in memory. -/
theorem l_alloc {ops : Array Oper} {d n : Nat} {T : TypeId} {α : Type} [Enc α] {x0 : α} {t : TypeId} {ps : String} {af : Array Edge} {r : List Oper} {F0 : Nat → Bool} {os : List (Nat → Bool)} {a : Act} {w w0 : World} {Q : Exit → Act → World → Prop}
    (hz : ZeroIs P T x0) (hA : At n (pf F0 os) Γ a w) (hB : Below w0.heap.size w0 w) (hD : Apart os) (hd : Nat.blt d n = true)
    (K : ∀ a' w' b, Below w.heap.size w w' → Below w0.heap.size w0 w' → At n (pf F0 (os ++ [bx b])) ((d, Pr.ptr b) :: Γ) a' w' → Apart (os ++ [bx b]) → OwnB T w0.heap.size (vw (pf F0 (os ++ [bx b])) w') w' b x0 → (∀ q, bx b q = true → w.heap.size ≤ q) →
      Mem.le (vw (pf F0 os) w) (vw (pf F0 (os ++ [bx b])) w') → wpList P ops Q r a' w') :
    wpList P ops Q (⟨some d, .alloc T, t, ps, af, none⟩ :: r) a w := by
  obtain ⟨i, z, hi, hzz, hrep⟩ := hz.out
  have hr1 : (execOp a.eval ⟨some d, .alloc T, t, ps, af, none⟩).run P w = .ok (.value (.pointer (some ⟨w.heap.size, 0, none⟩))) (w.alloc (.cells z.cells T)) := by
    simp [execOp, Instr.alloc, zeroValue, typeInfo, hi, hzz, newVar, newRow]
  unfold wpList
  simp only [Region.wanted, if_true]
  refine .inl (wp_of_ex ?_)
  unfold Ex
  rw [hr1]
  have hbw := below_alloc w (.cells z.cells T)
  have ho : ∀ b, bx w.heap.size b = true → w.heap.size ≤ b ∧ b < (w.alloc (.cells z.cells T)).heap.size := fun b hb => by rw [bx_iff] at hb; subst hb; simp
  refine K _ _ w.heap.size hbw (below_trans' hB hbw) ((at_push hA hbw ho).put (by simpa [Nat.blt_eq] using hd) rfl) (apart_push hD hA.own fun b hb => (ho b hb).1) ⟨⟨z.cells, heap_alloc_new w _, hrep _⟩, hB.size⟩ (fun b hb => (ho b hb).1) (vw_push hbw fun b hb => (ho b hb).1)
/-- 'x = y' in memory. -/
theorem l_store {ops : Array Oper} {n k p b : Nat} {T : TypeId} {y : Operand} {α : Type} [Enc α] {x z : α} {t : TypeId} {ps : String} {af : Array Edge} {r : List Oper} {F0 : Nat → Bool} {os : List (Nat → Bool)} {a : Act} {w w0 : World} {Q : Exit → Act → World → Prop}
    (hT : TyP P T α) (hk : os[k]? = some (bx b)) (hA : At n (pf F0 os) Γ a w) (hB : Below w0.heap.size w0 w) (hO : OwnB T w0.heap.size (vw (pf F0 os) w) w b x) (hC : AllC Γ) (hp : lk Γ p = some (Pr.ptr b)) (hy : Od Γ y (isV z))
    (K : ∀ w', Below w0.heap.size w0 w' → At n (pf F0 os) Γ a w' → OwnB T w0.heap.size (vw (pf F0 os) w') w' b z → (∀ q, q < w.heap.size → bx b q = false → w'.heap[q]? = w.heap[q]?) → Mem.le (vw (pf F0 os) w) (vw (pf F0 os) w') → w.heap.size ≤ w'.heap.size → wpList P ops Q r a w') :
    wpList P ops Q (⟨none, .store T (.tmp p) y, t, ps, af, none⟩ :: r) a w := by
  have hm : ∀ xs, Met Γ xs (v2 (pf F0 os) w) a := hA.met
  have hyv : val (vw (pf F0 os) w) (a.eval y) z := hy.get (hm [y]) (by simp)
  have hpv : a.eval (.tmp p) = .pointer (some ⟨b, 0, none⟩) := hA.sat p _ hp
  obtain ⟨cur, h1, h2⟩ := hO.out
  obtain ⟨i, hi, hsz⟩ := hT.info
  have hcells := val_cells hyv
  have hlen := Enc.len hcells
  have hone := Enc.cell hcells
  have hcur := Enc.len h2
  have hst := run_storeCells_at P b 0 T (a.eval y).cells.toList 0 cur w h1 (by rw [hlen]; simp at hcur; omega) hone
  have hcs : (a.eval y).cells.size = i.size := by rw [hsz, ← hlen]; simp
  have hcat : cur.toList.take 0 ++ (a.eval y).cells.toList ++ cur.toList.drop (0 + (a.eval y).cells.toList.length) = (a.eval y).cells.toList := by
    rw [List.take_zero, List.nil_append, List.drop_eq_nil_of_le (by rw [hlen]; omega), List.append_nil]
  have hr : (execOp a.eval ⟨none, .store T (.tmp p) y, t, ps, af, none⟩).run P w = .ok .skip (w.setRow b (a.eval y).cells.toList.toArray) := by
    simp only [Nat.add_zero] at hst
    rw [hcat] at hst
    simp only [execOp, hpv, Instr.storeAt, Instr.sureAddr, storeVar, Go.sizeOf, typeInfo, Sem.run_bind, run_program, Result.andThen_ok, hi, Sem.run_pure]
    simp [hcs, hst]
  unfold wpList
  simp only [Region.wanted, if_true]
  refine .inl (wp_of_ex ?_)
  unfold Ex
  rw [hr]
  have hblk : ∀ q, q < w.heap.size → bx b q = false → (w.setRow b (a.eval y).cells.toList.toArray).heap[q]? = w.heap[q]? := fun q hq hb => setRow_other _ _ _ _ (fun e => by rw [bx_iff.2 e] at hb; cases hb)
  have hset : os.set k (bx b) = os := by
    apply List.ext_getElem?
    intro j
    rw [List.getElem?_set]
    split
    · rename_i e; subst e; rw [if_pos (List.getElem?_eq_some_iff.1 hk).1, hk]
    · rfl
  have hle : Mem.le (vw (pf F0 os) w) (vw (pf F0 os) (w.setRow b (a.eval y).cells.toList.toArray)) := by
    have := vw_turn (F0 := F0) hk hblk (o' := bx b) (fun q hq => .inl hq)
    rwa [hset] at this
  have hsize : (w.setRow b (a.eval y).cells.toList.toArray).heap.size = w.heap.size := by simp
  refine K _ (hB.trans ⟨rfl, rfl, rfl, by rw [hsize]; exact Nat.le_refl _, fun q hq => setRow_other _ _ _ _ (fun e => by have := hO.ge; omega), Nat.le_refl _⟩) (hA.turn hC hle fun q hq => by rw [hsize]; exact hA.own q hq) ⟨⟨_, setRow_heap w b cur _ T _ h1, Enc.mono hle (by simpa using hcells)⟩, hO.ge⟩ hblk hle (by rw [hsize]; exact Nat.le_refl _)
theorem at_freezeB {α : Type} [Enc α] {T : TypeId} {n t k b : Nat} {F0 : Nat → Bool} {os : List (Nat → Bool)} {a : Act} {w w0 : World} {x : α} (hF0 : ∀ b, F0 b = true → b < w0.heap.size) (hD : Apart os) (hk : os[k]? = some (bx b))
    (hO : OwnB T w0.heap.size (vw (pf F0 os) w) w b x) (h : At n (pf F0 os) Γ a w) (e : lk Γ t = some (Pr.ptr b)) : At n (pf F0 (os.eraseIdx k)) ((t, isA x) :: Γ) a w := by
  have h1 := at_drop k h
  refine ⟨h1.size, h1.defers, h1.own, fun s φ hs => ?_⟩
  unfold lk at hs
  cases hb : Nat.beq t s with
  | true =>
    rw [hb] at hs
    simp only [cond_true, Option.some.injEq] at hs
    have := Nat.eq_of_beq_eq_true hb
    subst hs; subst this
    have hv : tmp a t = .pointer (some ⟨b, 0, none⟩) := h.sat t _ e
    obtain ⟨cur, h2, h3⟩ := hO.out
    refine ⟨b, 0, hv, cur.toList, Enc.mono (vw_less fun _ hb => pf_erase hb) h3, fun j u ej => ?_⟩
    have hn : pf F0 (os.eraseIdx k) b = false := erase_out hD hk (bx_iff.2 rfl) (by
      cases hf : F0 b with
      | false => rfl
      | true => have := hO.ge; have := hF0 b hf; omega)
    show vw _ _ _ = _
    unfold vw
    rw [if_neg (by simp [hn]), cell_of_row w b _ cur T (0, 0) h2, Nat.zero_add]
    simpa using ej
  | false => rw [hb] at hs; exact h1.sat s φ hs
theorem run_cell {α : Type} [Enc α] {T t : Nat} {F : Nat → Bool} {a : Act} {w : World} {x : α} (hT : TyP P T α) (h : (isA x).p (v2 F w) (tmp a t)) :
    ∃ v, (do loadVar T (← asAddr (a.tmps.getD t undef)) : Sem Value).run P w = .ok v w ∧ (isV x).p (v2 F w) v := by
  obtain ⟨b, off, hv, hh⟩ := h
  obtain ⟨v, hr, hval⟩ := run_load_holds (P := P) hT (c := vw F w) (fun _ _ h => vw_cell h) hh
  have hv' : a.tmps.getD t undef = .pointer (some ⟨b, off, none⟩) := hv
  exact ⟨v, by rw [hv']; simp [asAddr, hr], hval⟩
end
end Go.Proofs.YtnnhmgcigoiceaaGreatDoor.Wh

namespace Go.Proofs.YtnnhmgcigoiceaaGreatDoor.Wh
open Go Go.RowKit

structure OwnT {α : Type} [Enc α] (RT E : TypeId) (B : Nat) (c : Mem) (w : World) (v : Value) (o : Nat → Bool) (rs : List Value) (rows : List (List α)) : Prop where
  out : w.ownsRow B RT 1 v rows.length rs ∧
    (∀ (i : Nat) (u : Value) (r : List α), rs[i]? = some u → rows[i]? = some r → ∃ cells, w.ownsRow B E (Enc.size α) u r.length cells ∧ RepL c cells r) ∧
    (∀ (i j : Nat) (u u' : Value) (b : Nat), rs[i]? = some u → rs[j]? = some u' → u.ownBlock = some b → u'.ownBlock = some b → i = j) ∧
    (∀ (i : Nat) (u : Value) (b : Nat), rs[i]? = some u → u.ownBlock = some b → v.ownBlock ≠ some b) ∧
    (∀ b, v.ownBlock = some b → o b = true) ∧ (∀ (i : Nat) (u : Value) (b : Nat), rs[i]? = some u → u.ownBlock = some b → o b = true)
  lt : ∀ b, o b = true → B ≤ b ∧ b < w.heap.size
theorem ownsRow_kept {w w' : World} {B E size n : Nat} {v : Value} {xs : List Value} (h : w.ownsRow B E size v n xs) (hb : ∀ k, v.ownBlock = some k → w'.heap[k]? = w.heap[k]?) : w'.ownsRow B E size v n xs := by
  refine ⟨h.1, ?_⟩
  rcases h.2 with h1 | ⟨g, cap, cur, rfl, h2, h3, h4⟩
  · exact .inl h1
  · exact .inr ⟨g, cap, cur, rfl, h2, (hb g rfl).trans h3, h4⟩
theorem ownT_kept {α : Type} [Enc α] {RT E : TypeId} {B : Nat} {c c' : Mem} {w w' : World} {v : Value} {o : Nat → Bool} {rs : List Value} {rows : List (List α)} (h : OwnT RT E B c w v o rs rows) (hc : Mem.le c c') (hs : w.heap.size ≤ w'.heap.size)
    (hb : ∀ k, o k = true → w'.heap[k]? = w.heap[k]?) : OwnT RT E B c' w' v o rs rows := by
  obtain ⟨h1, h2, h3, h4, h5, h6⟩ := h.out
  refine ⟨⟨ownsRow_kept h1 (fun k hk => hb k (h5 k hk)), fun i u r hu hr => ?_, h3, h4, h5, h6⟩, fun b hb' => ⟨(h.lt b hb').1, Nat.lt_of_lt_of_le (h.lt b hb').2 hs⟩⟩
  obtain ⟨cells, hc1, hc2⟩ := h2 i u r hu hr
  exact ⟨cells, ownsRow_kept hc1 (fun k hk => hb k (h6 i u k hu hk)), hc2.mono hc⟩
/-! ### facts on a table and its parts, at this moment -/
def RowM {α : Type} [Enc α] (c : Mem2) (u : Value) (r : List α) : Prop :=
  (u = .slice none 0 0 ∧ r = []) ∨ ∃ b cap cells, u = .slice (some ⟨b, 0, none⟩) r.length cap ∧ RepL c.c cells r ∧ ∀ j x, cells[j]? = some x → c.m ⟨b, j, none⟩ = some x
theorem RowM.mono {α : Type} [Enc α] {c c' : Mem2} (hc : Mem2.le c c') {u : Value} {r : List α} (h : RowM c u r) : RowM c' u r := by
  rcases h with h | ⟨b, cap, cells, hu, hr, hm⟩
  · exact .inl h
  · exact .inr ⟨b, cap, cells, hu, hr.mono hc.1, fun j x e => hc.2 _ _ (hm j x e)⟩
/-- facts that are let go, in part or whole -/
def AllOd (Γ : List (Nat × Pr)) : List (Nat × Pr) → Prop
  | [] => True
  | e :: r => Od Γ (.tmp e.1) e.2 ∧ AllOd Γ r
theorem od_lk {Γ : List (Nat × Pr)} : ∀ {Δ : List (Nat × Pr)}, AllOd Γ Δ → ∀ {t : Nat} {φ : Pr}, lk Δ t = some φ → Od Γ (.tmp t) φ
  | [], _, t, φ, e => by cases e
  | (d, ψ) :: r, h, t, φ, e => by
    unfold lk at e
    cases hb : Nat.beq d t with
    | true => rw [hb] at e; simp only [cond_true, Option.some.injEq] at e; subst e; have := Nat.eq_of_beq_eq_true hb; subst this; exact h.1
    | false => rw [hb] at e; exact od_lk h.2 e
theorem At.weak {Γ Δ : List (Nat × Pr)} {n : Nat} {F : Nat → Bool} {a : Act} {w : World} (h : At n F Γ a w) (hl : AllOd Γ Δ) : At n F Δ a w :=
  ⟨h.size, h.defers, h.own, fun t φ e => by obtain ⟨ψ, h1, h2⟩ := od_lk hl e; exact h2 _ _ (h.sat t ψ h1)⟩
section
variable {P : Program} {Γ : List (Nat × Pr)} {ty : TypeId}
theorem cells_m {w : World} {B E size n : Nat} {v : Value} {xs : List Value} (h : w.ownsRow B E size v n xs) {g : Nat} (hg : v.ownBlock = some g) (j : Nat) (u : Value) (e : xs[j]? = some u) : w.cell? ⟨g, j, none⟩ = some u := by
  have := h.cells hg j u e
  rwa [Addr.add_lit, Nat.zero_add] at this
theorem own_rowM {α : Type} [Enc α] {E B : Nat} {F : Nat → Bool} {w : World} {u : Value} {r : List α} {cells : List Value} (h : w.ownsRow B E (Enc.size α) u r.length cells) (hl : RepL (vw F w) cells r) : RowM (v2 F w) u r := by
  rcases h.2 with ⟨rfl, h0⟩ | ⟨g, cap, cur, rfl, _⟩
  · exact .inl ⟨rfl, List.eq_nil_of_length_eq_zero h0⟩
  · exact .inr ⟨g, cap, cells, rfl, hl, fun j x e => cells_m h rfl j x e⟩
/-! ### what is written -/
theorem set_self {os : List (Nat → Bool)} {k : Nat} {o : Nat → Bool} (hk : os[k]? = some o) : os.set k o = os := by
  apply List.ext_getElem?
  intro j
  rw [List.getElem?_set]
  split
  · rename_i e; subst e; rw [if_pos (List.getElem?_eq_some_iff.1 hk).1, hk]
  · rfl
theorem RepL.set {α : Type} [Enc α] {c : Mem} : ∀ {cells : List Value} {xs : List α} (j : Nat) {vs : List Value} {z : α}, RepL c cells xs → Enc.rep c vs z → j < xs.length →
    RepL c (cells.take (j * Enc.size α) ++ vs ++ cells.drop (j * Enc.size α + vs.length)) (xs.set j z)
  | _, [], j, _, _, _, _, h => absurd h (by simp)
  | _, x :: r, 0, vs, z, ⟨v1, v2, he, h1, h2⟩, hz, _ => by
    subst he
    refine ⟨vs, v2, ?_, hz, h2⟩
    rw [Nat.zero_mul, List.take_zero, List.nil_append, Nat.zero_add, Enc.len hz, ← Enc.len h1, List.drop_left]
  | _, x :: r, j + 1, vs, z, ⟨v1, v2, he, h1, h2⟩, hz, hj => by
    subst he
    refine ⟨v1, _, ?_, h1, RepL.set j h2 hz (by simpa using hj)⟩
    have e1 : (j + 1) * Enc.size α = v1.length + j * Enc.size α := by rw [Enc.len h1, Nat.add_mul]; omega
    rw [e1, List.take_append, List.take_of_length_le (by omega), Nat.add_sub_cancel_left]
    rw [List.append_assoc v1, List.append_assoc v1]
    congr 1
    rw [Nat.add_assoc, List.drop_append, List.drop_eq_nil_of_le (by omega), List.nil_append]
    congr 2
    omega
/-! ### make -/
theorem repL_rep {α : Type} [Enc α] {c : Mem} {z : Value} {x : α} (h : Enc.rep c [z] x) : ∀ n, RepL c (List.replicate n z) (List.replicate n x)
  | 0 => rfl
  | n + 1 => ⟨[z], List.replicate n z, rfl, h, repL_rep h n⟩
theorem mk_some {α : Type} {n : Int} {x : α} {xs : List α} (h : mk n x = some xs) : 0 ≤ n ∧ n ≤ 4294967296 ∧ xs = List.replicate n.toNat x := by
  unfold mk at h
  split at h
  · rename_i hn; cases h; exact ⟨hn.1, hn.2, rfl⟩
  · cases h
theorem make_drawn {T E : TypeId} {i : TypeInfo} {z v : Value} {w w' : World} {n : Nat} (ht : P.underlying T = some (.slice E)) (hi : P.info? E = some i) (hz : i.zero = some z) (hb : i.bytes * n ≤ 281474976710656) (h63 : n ≤ maxLen)
    (hr : (Instr.makeSlice T (.int .i64 (n : Int)) (.int .i64 (n : Int))).run P w = .ok v w') : w.drawn ≤ w'.drawn := by
  have h63' : (n : Int) ≤ 9223372036854775807 := by
    have h := h63
    simp [maxLen] at h
    omega
  have hb' : (i.bytes : Int) * (n : Int) ≤ 281474976710656 := by
    have h : ((i.bytes * n : Nat) : Int) ≤ 281474976710656 := by omega
    rwa [Int.natCast_mul] at h
  have h2 := run_make (P := P) w T E i z ht hi hz .i64 .i64 n n (by omega) (Int.le_refl _) hb' h63'
  rw [hr] at h2
  injection h2 with _ h3
  rw [h3]
  exact Nat.le_refl _
theorem run_mk {T E : TypeId} {α : Type} [Enc α] (hT : SlP P T E α) (hz : ZeroP P E α) {x0 : α} (hz0 : ZeroIs P E x0) (h1 : Enc.size α = 1) {n : Int} {xs : List α} (h : mk n x0 = some xs) (w : World) {B : Nat} (hB : B ≤ w.heap.size) :
    ∃ w', (Instr.makeSlice T (.int .i64 n) (.int .i64 n)).run P w = .ok (.slice (some ⟨w.heap.size, 0, none⟩) xs.length xs.length) w' ∧ Below w.heap.size w w' ∧ w.heap.size < w'.heap.size ∧
      ∀ c, Own E B c w' (.slice (some ⟨w.heap.size, 0, none⟩) xs.length xs.length) xs := by
  obtain ⟨h0, hn, rfl⟩ := mk_some h
  obtain ⟨i, z, hi, hzz, hsz, hzs, hps, hby⟩ := hz.out
  obtain ⟨i', z', hi', hz', hrep⟩ := hz0.out
  rw [hi] at hi'; cases hi'
  rw [hzz] at hz'; cases hz'
  obtain ⟨k, rfl⟩ := Int.eq_ofNat_of_zero_le h0
  have hkl : k ≤ 4294967296 := by omega
  obtain ⟨w', hr, ho, hg⟩ := run_make_full (P := P) w B T E i z 1 hT.desc hi hzz (by rw [hsz, h1]) .i64 .i64 k (by
    have : i.bytes * k ≤ 16384 * 4294967296 := Nat.mul_le_mul hby hkl
    omega) (by unfold maxLen; omega) hB
  have hlt := (ho.lt w.heap.size rfl).2
  refine ⟨w', by simpa using hr, ⟨hg.os, hg.tape, hg.output, hg.size, fun q hq => hg.block q hq (by simp), dn_le (make_drawn hT.desc hi hzz (by
    have : i.bytes * k ≤ 16384 * 4294967296 := Nat.mul_le_mul hby hkl
    omega) (by unfold maxLen; omega) hr)⟩, hlt, fun c => ⟨⟨List.replicate k z.cells.toList.head!, ?_, ?_⟩⟩⟩
  · have hz1 : z.cells = #[z.cells.toList.head!] := by
      have : z.cells.size = 1 := by rw [hzs, h1]
      cases hc : z.cells with
      | mk l =>
        rw [hc] at this
        match l, this with
        | [q], _ => rfl
    rw [h1]
    simp only [List.length_replicate, Int.toNat_natCast]
    have := ho
    rw [Nat.mul_one] at this
    rw [hz1, toList_madeCells_one] at this
    simpa using this
  · have hz1 : z.cells.toList = [z.cells.toList.head!] := by
      have : z.cells.toList.length = 1 := by simp [hzs, h1]
      match hl : z.cells.toList, this with
      | [q], _ => rfl
    have := hrep c
    rw [hz1] at this
    exact repL_rep this k
/-- 'd = make([]T, n)'. -/
theorem l_make {ops : Array Oper} {d n : Nat} {T E : TypeId} {x : Operand} {α : Type} [Enc α] {x0 : α} {k : Int} {xs : List α} {t : TypeId} {ps : String} {af : Array Edge} {r : List Oper} {F0 : Nat → Bool} {os : List (Nat → Bool)} {a : Act} {w w0 : World} {Q : Exit → Act → World → Prop}
    (hT : SlP P T E α) (hz : ZeroP P E α) (hz0 : ZeroIs P E x0) (h1 : Nat.beq (Enc.size α) 1 = true) (hA : At n (pf F0 os) Γ a w) (hB : Below w0.heap.size w0 w) (hD : Apart os) (hx : Od Γ x (isV k)) (hmk : mk k x0 = some xs) (hd : Nat.blt d n = true)
    (K : ∀ a' w' v, Below w.heap.size w w' → Below w0.heap.size w0 w' → At n (pf F0 (os ++ [ob v])) ((d, Pr.is v) :: Γ) a' w' → Apart (os ++ [ob v]) → Own E w0.heap.size (vw (pf F0 (os ++ [ob v])) w') w' v xs → (∀ b, ob v b = true → w.heap.size ≤ b) →
      Mem.le (vw (pf F0 os) w) (vw (pf F0 (os ++ [ob v])) w') → wpList P ops Q r a' w') :
    wpList P ops Q (⟨some d, .makeSlice T x x, t, ps, af, none⟩ :: r) a w := by
  have hm : ∀ xs, Met Γ xs (v2 (pf F0 os) w) a := hA.met
  have hxv : a.eval x = .int .i64 k := hx.get (hm [x]) (by simp)
  obtain ⟨w', hr, hbw, hlt, hO⟩ := run_mk (P := P) hT hz hz0 (Nat.eq_of_beq_eq_true h1) hmk w hB.size
  have hr1 : (execOp a.eval ⟨some d, .makeSlice T x x, t, ps, af, none⟩).run P w = .ok (.value (.slice (some ⟨w.heap.size, 0, none⟩) xs.length xs.length)) w' := by
    simp [execOp, hxv, hr]
  unfold wpList
  simp only [Region.wanted, if_true]
  refine .inl (wp_of_ex ?_)
  unfold Ex
  rw [hr1]
  have ho : ∀ b, ob (.slice (some ⟨w.heap.size, 0, none⟩) xs.length xs.length) b = true → w.heap.size ≤ b ∧ b < w'.heap.size := fun b hb => by
    have := ob_iff.1 hb; cases this; exact ⟨Nat.le_refl _, hlt⟩
  exact K _ _ _ hbw (below_trans' hB hbw) ((at_push hA hbw ho).put (by simpa [Nat.blt_eq] using hd) rfl) (apart_push hD hA.own fun b hb => (ho b hb).1) (hO _) (fun b hb => (ho b hb).1) (vw_push hbw fun b hb => (ho b hb).1)
end
end Go.Proofs.YtnnhmgcigoiceaaGreatDoor.Wh

namespace Go.Proofs.YtnnhmgcigoiceaaGreatDoor.Wh
open Go Go.RowKit

/-! ### elements of an own slice -/
def isOS {α : Type} [Enc α] (v : Value) (xs : List α) : Pr := ⟨fun c u => u = v ∧ RowM c v xs, fun hc h => ⟨h.1, h.2.mono hc⟩⟩
/-- the place of element j of an own slice -/
def isEP (α : Type) [Enc α] (v : Value) (j : Nat) : Pr := ⟨fun _ u => ∃ b n cap, v = .slice (some ⟨b, 0, none⟩) n cap ∧ u = .pointer (some ⟨b, j * Enc.size α, none⟩), fun _ h => h⟩
def isEA {α : Type} [Enc α] (v : Value) (j : Nat) (y : α) : Pr :=
  ⟨fun c u => ∃ b n cap vs, v = .slice (some ⟨b, 0, none⟩) n cap ∧ u = .pointer (some ⟨b, j * Enc.size α, none⟩) ∧ Enc.rep c.c vs y ∧ ∀ q x, vs[q]? = some x → c.m ⟨b, j * Enc.size α + q, none⟩ = some x,
   fun hc h => by obtain ⟨b, n, cap, vs, h1, h2, h3, h4⟩ := h; exact ⟨b, n, cap, vs, h1, h2, Enc.mono hc.1 h3, fun q x e => hc.2 _ _ (h4 q x e)⟩⟩
theorem odEP {α : Type} [Enc α] {Γ : List (Nat × Pr)} {t j : Nat} {v : Value} {y : α} (h : lk Γ t = some (isEA v j y)) : Od Γ (.tmp t) (isEP α v j) :=
  ⟨_, h, fun _ _ k => by obtain ⟨b, n, cap, vs, h1, h2, _⟩ := k; exact ⟨b, n, cap, h1, h2⟩⟩
theorem odOS {α : Type} [Enc α] {Γ : List (Nat × Pr)} {t : Nat} {v : Value} {xs : List α} (h : lk Γ t = some (isOS v xs)) : Od Γ (.tmp t) (Pr.is v) := ⟨_, h, fun _ _ k => k.1⟩
section
variable {P : Program} {Γ : List (Nat × Pr)} {ty : TypeId}
theorem at_os {α : Type} [Enc α] {E B n t : Nat} {F : Nat → Bool} {a : Act} {w : World} {v : Value} {xs : List α} (hO : Own E B (vw F w) w v xs) (h : At n F Γ a w) (e : lk Γ t = some (Pr.is v)) : At n F ((t, isOS v xs) :: Γ) a w := by
  refine ⟨h.size, h.defers, h.own, fun s φ hs => ?_⟩
  unfold lk at hs
  cases hb : Nat.beq t s with
  | true =>
    rw [hb] at hs
    simp only [cond_true, Option.some.injEq] at hs
    have := Nat.eq_of_beq_eq_true hb
    subst hs; subst this
    obtain ⟨cells, h1, h2⟩ := hO.row
    exact ⟨h.sat t _ e, own_rowM h1 h2⟩
  | false => rw [hb] at hs; exact h.sat s φ hs
theorem sp_lenOS {α : Type} [Enc α] {x : Operand} {T E : TypeId} {v : Value} {xs : List α} (hT : P.underlying T = some (.slice E)) (hx : Od Γ x (isOS v xs)) : StepP P (.call { callee := .builtin .len, args := #[x], argTypes := #[T] }) ty Γ (isV (xs.length : Int)) :=
  step_pure fun c w a hc hm => by
    obtain ⟨h1, h2⟩ := hx.get hm (by simp [Op.operands, Call.operands])
    obtain ⟨a', cap, hv⟩ : ∃ a' cap, v = .slice a' xs.length cap := by
      rcases h2 with ⟨hu, rfl⟩ | ⟨b, cap', _, hu, _⟩
      · exact ⟨none, 0, hu⟩
      · exact ⟨_, cap', hu⟩
    refine ⟨.int .i64 xs.length, ?_, rfl⟩
    simp [execOp, plain, resolve, invoke, builtin, Builtin.len_, h1, hv, run_underlying hT, goInt]
theorem sp_indexAddrOS {α : Type} [Enc α] {x k : Operand} {T E : TypeId} {v : Value} {xs : List α} {j : Int} {y : α} (hT : SlP P T E α) (hx : Od Γ x (isOS v xs)) (hk : Od Γ k (isV j)) (h : idx xs j = some y) : StepP P (.indexAddr T x k) ty Γ (isEA v j.toNat y) :=
  step_pure fun c w a hc hm => by
    have hkv := get_int hk hm (by simp [Op.operands])
    obtain ⟨h1, h3⟩ := hx.get hm (by simp [Op.operands])
    obtain ⟨h0, hlt, he⟩ := idx_some h
    rcases h3 with ⟨_, rfl⟩ | ⟨b, cap', cells, hu, hl, hmm⟩
    · simp at hlt
    · obtain ⟨vs, hr, hv⟩ := hl.get j.toNat hlt
      refine ⟨.pointer (some ⟨b, j.toNat * Enc.size α, none⟩), ?_, b, _, cap', vs, hu, rfl, by rw [← he]; exact hr, fun q z e => hmm _ _ (hv q z e)⟩
      have hi : 0 ≤ j ∧ j < (xs.length : Int) := ⟨h0, by omega⟩
      simp [execOp, plain, hkv, h1, hu, Instr.indexAt, asIntOf, run_underlying hT.desc, hi, hT.elem.sizeOf w, Addr.add_lit]
theorem sp_loadEA {α : Type} [Enc α] {x : Operand} {E : TypeId} {v : Value} {j : Nat} {y : α} (hT : TyP P E α) (hx : Od Γ x (isEA v j y)) : StepP P (.load E x) ty Γ (isV y) :=
  step_pure fun c w a hc hm => by
    obtain ⟨b, n, cap, vs, h1, h3, h4, h5⟩ := hx.get hm (by simp [Op.operands])
    obtain ⟨u, hrun, hval⟩ := run_load_cells (P := P) hT h4 (fun q z e => hc.2 _ _ (h5 q z e))
    exact ⟨u, by simp [execOp, plain, h3, Instr.loadAt, Instr.sureAddr, hrun], hval⟩
theorem set1_some {α : Type} {r r' : List α} {j : Int} {z : α} (h : set1 r j z = some r') : 0 ≤ j ∧ j.toNat < r.length ∧ r' = r.set j.toNat z := by
  unfold set1 at h
  split at h
  · cases h
  · split at h
    · rename_i h0 h1; cases h; exact ⟨by omega, h1, rfl⟩
    · cases h
/-- The row of an own slice, one element set. -/
theorem own_set_row {α : Type} [Enc α] {E B : Nat} {c c' : Mem} {w : World} {b n' cap' : Nat} {xs : List α} {vs : List Value} {z : α} {j : Nat} (hO : Own E B c w (.slice (some ⟨b, 0, none⟩) n' cap') xs) (hc : Mem.le c c') (hz : Enc.rep c' vs z) (hj : j < xs.length)
    {new : List Value} (hnew : ∀ cur, w.heap[b]? = some (.cells cur E (0, 0)) → new = cur.toList.take (j * Enc.size α) ++ vs ++ cur.toList.drop (j * Enc.size α + vs.length)) : Own E B c' (w.setRow b new.toArray) (.slice (some ⟨b, 0, none⟩) n' cap') (xs.set j z) := by
  obtain ⟨cells, hr, hl⟩ := hO.row
  rcases hr.2 with ⟨hn, _⟩ | ⟨b', cap, cur, hub, hBb, hheap, hlc, hcm, hcs, htake⟩
  · cases hn
  cases hub
  have hnew' := hnew cur hheap
  have hlen : vs.length = Enc.size α := Enc.len hz
  have hjm : (j + 1) * Enc.size α ≤ xs.length * Enc.size α := Nat.mul_le_mul_right _ (by omega)
  rw [Nat.add_mul] at hjm
  have hlc' : xs.length * Enc.size α ≤ cap' * Enc.size α := Nat.mul_le_mul_right _ hlc
  have hcl : cur.toList.length = cap' * Enc.size α := by simpa using hcs
  refine ⟨cells.take (j * Enc.size α) ++ vs ++ cells.drop (j * Enc.size α + vs.length), ⟨?_, .inr ⟨b, cap', new.toArray, by rw [List.length_set], hBb, setRow_heap w b cur _ E _ hheap, by rw [List.length_set]; exact hlc, hcm, ?_, ?_⟩⟩, RepL.set j (hl.mono hc) hz hj⟩
  · exact RepL.len (RepL.set j (hl.mono hc) hz hj)
  · rw [hnew']
    simp only [List.size_toArray, List.length_append, List.length_take, List.length_drop, hcl]
    omega
  · rw [hnew', List.length_set, ← htake]
    apply List.ext_getElem?
    intro q
    simp only [List.getElem?_take, List.getElem?_append, List.length_take, List.length_append, List.getElem?_drop, hcl]
    have e1 : min (j * Enc.size α) (cap' * Enc.size α) = j * Enc.size α := by omega
    have e2 : min (j * Enc.size α) (min (xs.length * Enc.size α) (cap' * Enc.size α)) = j * Enc.size α := by omega
    rw [e1, e2]
    by_cases q1 : q < xs.length * Enc.size α
    · rw [if_pos q1]
      by_cases q2 : q < j * Enc.size α
      · simp only [show q < j * Enc.size α + vs.length by omega, q2, q1, if_true]
      · by_cases q3 : q < j * Enc.size α + vs.length
        · simp only [q3, q2, if_true, if_false]
        · simp only [q3, if_false]
          have e3 : j * Enc.size α + vs.length + (q - (j * Enc.size α + vs.length)) = q := by omega
          rw [e3]
          simp only [q1, if_true]
    · rw [if_neg q1]
      symm
      simp only [show ¬ q < j * Enc.size α + vs.length by omega, if_false]
      rw [if_neg (by omega)]
/-- 'x[j] = z' on an own slice. -/
theorem l_storeEA {ops : Array Oper} {n k p : Nat} {j : Int} {E : TypeId} {y : Operand} {α : Type} [Enc α] {z : α} {xs xs' : List α} {v : Value} {t : TypeId} {ps : String} {af : Array Edge} {r : List Oper} {F0 : Nat → Bool} {os : List (Nat → Bool)} {a : Act} {w w0 : World} {Q : Exit → Act → World → Prop}
    (hT : TyP P E α) (hk : os[k]? = some (ob v)) (hA : At n (pf F0 os) Γ a w) (hB : Below w0.heap.size w0 w) (hO : Own E w0.heap.size (vw (pf F0 os) w) w v xs) (hp : Od Γ (.tmp p) (isEP α v j.toNat)) (hy : Od Γ y (isV z)) (hset : set1 xs j z = some xs')
    {Δ : List (Nat × Pr)} (hl : AllOd Γ Δ) (hC : AllC Δ)
    (K : ∀ w', Below w0.heap.size w0 w' → At n (pf F0 os) Δ a w' → Own E w0.heap.size (vw (pf F0 os) w') w' v xs' → (∀ q, q < w.heap.size → ob v q = false → w'.heap[q]? = w.heap[q]?) → w.heap.size ≤ w'.heap.size → Mem.le (vw (pf F0 os) w) (vw (pf F0 os) w') → wpList P ops Q r a w') :
    wpList P ops Q (⟨none, .store E (.tmp p) y, t, ps, af, none⟩ :: r) a w := by
  have hm : ∀ xs, Met Γ xs (v2 (pf F0 os) w) a := hA.met
  have hyv : val (vw (pf F0 os) w) (a.eval y) z := hy.get (hm [y]) (by simp)
  obtain ⟨b, n', cap', rfl, hpv⟩ := hp.get (hm [.tmp p]) (by simp)
  have hpv : a.eval (.tmp p) = .pointer (some ⟨b, j.toNat * Enc.size α, none⟩) := hpv
  obtain ⟨hj0, hjlt, rfl⟩ := set1_some hset
  obtain ⟨cells, h1, h2⟩ := hO.row
  rcases h1.2 with ⟨hn, _⟩ | ⟨b', cap, cur, hub, hBb, hheap, hlc, hcm, hcs, htake⟩
  · cases hn
  cases hub
  have hcells := val_cells hyv
  have hlen := Enc.len hcells
  have hone := Enc.cell hcells
  obtain ⟨inf, hinf, hsz⟩ := hT.info
  have hpos : (j.toNat + 1) * Enc.size α ≤ cap' * Enc.size α := Nat.mul_le_mul_right _ (by omega)
  have hfit : j.toNat * Enc.size α + 0 + (a.eval y).cells.toList.length ≤ cur.size := by rw [hlen, hcs]; rw [Nat.add_mul] at hpos; omega
  have hst := run_storeCells_at P b (j.toNat * Enc.size α) E (a.eval y).cells.toList 0 cur w hheap hfit hone
  have hcs2 : (a.eval y).cells.size = inf.size := by rw [hsz, ← hlen]; simp
  have hr : (execOp a.eval ⟨none, .store E (.tmp p) y, t, ps, af, none⟩).run P w = .ok .skip (w.setRow b (cur.toList.take (j.toNat * Enc.size α) ++ (a.eval y).cells.toList ++ cur.toList.drop (j.toNat * Enc.size α + (a.eval y).cells.toList.length)).toArray) := by
    simp only [Nat.add_zero] at hst
    simp only [execOp, hpv, Instr.storeAt, Instr.sureAddr, storeVar, Go.sizeOf, typeInfo, Sem.run_bind, run_program, Result.andThen_ok, hinf, Sem.run_pure]
    simp [hcs2, hst]
  unfold wpList
  simp only [Region.wanted, if_true]
  refine .inl (wp_of_ex ?_)
  unfold Ex
  rw [hr]
  generalize hnew : cur.toList.take (j.toNat * Enc.size α) ++ (a.eval y).cells.toList ++ cur.toList.drop (j.toNat * Enc.size α + (a.eval y).cells.toList.length) = new
  have hblk : ∀ q, q ≠ b → (w.setRow b new.toArray).heap[q]? = w.heap[q]? := fun q hq => setRow_other _ _ _ _ hq
  have hblk' : ∀ q, q < w.heap.size → ob (.slice (some ⟨b, 0, none⟩) xs.length cap') q = false → (w.setRow b new.toArray).heap[q]? = w.heap[q]? := fun q _ hq => hblk q (fun e => by subst e; simp [ob, Value.ownBlock] at hq)
  have hle : Mem.le (vw (pf F0 os) w) (vw (pf F0 os) (w.setRow b new.toArray)) := by
    have := vw_turn (F0 := F0) hk hblk' (o' := ob (.slice (some ⟨b, 0, none⟩) xs.length cap')) (fun q hq => .inl hq)
    rwa [set_self hk] at this
  have hsize : (w.setRow b new.toArray).heap.size = w.heap.size := by simp
  refine K _ (hB.trans ⟨rfl, rfl, rfl, by rw [hsize]; exact Nat.le_refl _, fun q hq => hblk q (fun e => by omega), Nat.le_refl _⟩) ((hA.weak hl).turn hC hle fun q hq => by rw [hsize]; exact hA.own q hq) ?_ hblk' (by rw [hsize]; exact Nat.le_refl _) hle
  refine own_set_row hO hle (Enc.mono hle hcells) hjlt (fun cur' hc' => ?_)
  rw [hheap] at hc'
  cases hc'
  exact hnew.symm

/-! ### a row put into a table -/
/-- A table whose row i is elsewhere. -/
structure OwnH {α : Type} [Enc α] (RT E : TypeId) (B : Nat) (c : Mem) (w : World) (v : Value) (o : Nat → Bool) (i : Nat) (rs : List Value) (rows : List (List α)) : Prop where
  out : w.ownsRow B RT 1 v rows.length rs ∧
    (∀ (j : Nat) (u : Value) (r : List α), j ≠ i → rs[j]? = some u → rows[j]? = some r → ∃ cells, w.ownsRow B E (Enc.size α) u r.length cells ∧ RepL c cells r) ∧
    (∀ (j k : Nat) (u u' : Value) (b : Nat), j ≠ i → k ≠ i → rs[j]? = some u → rs[k]? = some u' → u.ownBlock = some b → u'.ownBlock = some b → j = k) ∧
    (∀ (j : Nat) (u : Value) (b : Nat), j ≠ i → rs[j]? = some u → u.ownBlock = some b → v.ownBlock ≠ some b) ∧
    (∀ b, v.ownBlock = some b → o b = true) ∧ (∀ (j : Nat) (u : Value) (b : Nat), j ≠ i → rs[j]? = some u → u.ownBlock = some b → o b = true)
  lt : ∀ b, o b = true → B ≤ b ∧ b < w.heap.size
end
end Go.Proofs.YtnnhmgcigoiceaaGreatDoor.Wh
