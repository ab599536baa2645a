/-
  What is proved: variables in memory that are set anew; tables (slices of slices) that a call makes itself and writes.
  tables (slices of slices) that a call makes itself, reads and writes.
  rows put into tables; elements of own slices set anew.
-/
import Derived.Test.YtjlagmcdoobimaaGreatDoorBaseB
import Derived.Laws.OwnMore
namespace Go.Proofs.YtjlagmcdoobimaaGreatDoor.Wh
open Go Go.RowKit

theorem run_load_cells {P : Program} {T : TypeId} {α : Type} [Enc α] (hT : TyP P T α) {c : Mem} {w : World} {b off : Nat} {x : α} {vs : List Value} (hr : Enc.rep c vs x) (hv : ∀ j v, vs[j]? = some v → w.cell? ⟨b, off + j, none⟩ = some v) :
    ∃ v, (loadVar T ⟨b, off, none⟩).run P w = .ok v w ∧ val c v x := by
  have hl := Enc.len hr
  unfold loadVar
  simp only [Sem.run_bind, hT.isAgg w, Result.andThen]
  cases ha : Enc.agg α with
  | false =>
    have h1 := Enc.one (α := α) ha
    rw [h1] at hl
    obtain ⟨v, rfl⟩ : ∃ v, vs = [v] := by
      match vs, hl with
      | [v], _ => exact ⟨v, rfl⟩
    refine ⟨v, ?_, ?_⟩
    · have := hv 0 v rfl
      simp at this
      simp [this]
    · unfold val; rw [ha]; exact hr
  | true =>
    refine ⟨.agg vs.toArray, ?_, ?_⟩
    · have := run_loadCells_list (P := P) w ⟨b, off, none⟩ vs (fun j v e => by rw [Addr.add_lit]; exact hv j v e)
      rw [hl] at this
      simp [hT.sizeOf w, this]
    · unfold val; rw [ha]; exact ⟨vs, rfl, hr⟩

/-! ### variables in memory -/
def bx (b : Nat) : Nat → Bool := fun k => Nat.beq k b
theorem bx_iff {b k : Nat} : bx b k = true ↔ k = b := by unfold bx; exact ⟨Nat.eq_of_beq_eq_true, fun h => by subst h; simp⟩
def Pr.ptr (b : Nat) : Pr := Pr.is (.pointer (some ⟨b, 0, none⟩))
structure OwnB {α : Type} [Enc α] (T : TypeId) (B : Nat) (c : Mem) (w : World) (b : Nat) (x : α) : Prop where
  out : ∃ cur, w.heap[b]? = some (.cells cur T (0, 0)) ∧ Enc.rep c cur.toList x
  ge : B ≤ b
theorem ownB_kept {α : Type} [Enc α] {T : TypeId} {B : Nat} {c c' : Mem} {w w' : World} {b : Nat} {x : α} (h : OwnB T B c w b x) (hc : Mem.le c c') (hb : w'.heap[b]? = w.heap[b]?) : OwnB T B c' w' b x := by
  obtain ⟨cur, h1, h2⟩ := h.out
  exact ⟨⟨cur, hb.trans h1, Enc.mono hc h2⟩, h.ge⟩
/-- The pointer to such a variable, and what it holds at this moment. -/
def isB {α : Type} [Enc α] (x : α) : Pr := ⟨fun c v => ∃ b off vs, v = .pointer (some ⟨b, off, none⟩) ∧ Enc.rep c.c vs x ∧ ∀ j u, vs[j]? = some u → c.m ⟨b, off + j, none⟩ = some u,
  fun hc h => by obtain ⟨b, off, vs, hv, hr, hh⟩ := h; exact ⟨b, off, vs, hv, Enc.mono hc.1 hr, fun j u e => hc.2 _ _ (hh j u e)⟩⟩
def Pr.boxed {α : Type} [Enc α] (b : Nat) (x : α) : Pr := ⟨fun c v => v = .pointer (some ⟨b, 0, none⟩) ∧ (isB x).p c v, fun hc h => ⟨h.1, (isB x).mono hc h.2⟩⟩
section
variable {P : Program} {Γ : List (Nat × Pr)} {ty : TypeId}
theorem odB {α : Type} [Enc α] {t b : Nat} {x : α} (h : lk Γ t = some (Pr.boxed b x)) : Od Γ (.tmp t) (isB x) := ⟨_, h, fun _ _ k => k.2⟩
theorem at_box {α : Type} [Enc α] {T : TypeId} {B n t b : Nat} {F : Nat → Bool} {a : Act} {w : World} {x : α} (hO : OwnB T B (vw F w) w b x) (h : At n F Γ a w) (e : lk Γ t = some (Pr.ptr b)) : At n F ((t, Pr.boxed b x) :: Γ) a w := by
  refine ⟨h.size, h.defers, h.own, fun s φ hs => ?_⟩
  unfold lk at hs
  cases hb : Nat.beq t s with
  | true =>
    rw [hb] at hs
    simp only [cond_true, Option.some.injEq] at hs
    have := Nat.eq_of_beq_eq_true hb
    subst hs; subst this
    have hv : tmp a t = .pointer (some ⟨b, 0, none⟩) := h.sat t _ e
    obtain ⟨cur, h1, h2⟩ := hO.out
    refine ⟨hv, b, 0, cur.toList, hv, h2, fun j u ej => ?_⟩
    show w.cell? _ = _
    rw [cell_of_row w b _ cur T (0, 0) h1, Nat.zero_add]
    simpa using ej
  | false => rw [hb] at hs; exact h.sat s φ hs
theorem sp_loadB {α : Type} [Enc α] {x : Operand} {T : TypeId} {d : α} (hT : TyP P T α) (hx : Od Γ x (isB d)) : StepP P (.load T x) ty Γ (isV d) :=
  step_pure fun c w a hc hm => by
    obtain ⟨b, off, vs, hv, hr, hh⟩ := hx.get hm (by simp [Op.operands])
    obtain ⟨v, hrun, hval⟩ := run_load_cells (P := P) hT hr (fun j u e => hc.2 _ _ (hh j u e))
    exact ⟨v, by simp [execOp, plain, hv, Instr.loadAt, Instr.sureAddr, hrun], hval⟩
structure ZeroIs (P : Program) (T : TypeId) {α : Type} [Enc α] (x : α) : Prop where
  out : ∃ i z, P.info? T = some i ∧ i.zero = some z ∧ ∀ c, Enc.rep c z.cells.toList x
theorem ZeroIs.mk' {T : TypeId} {α : Type} [Enc α] {x : α} {cs : List Value} (h : (P.info? T).map (fun i => i.zero.map (·.cells.toList)) = some (some cs)) (hr : ∀ c, Enc.rep c cs x) : ZeroIs P T x := by
  cases hi : P.info? T with
  | none => rw [hi] at h; cases h
  | some i =>
    rw [hi] at h
    simp only [Option.map_some, Option.some.injEq] at h
    cases hz : i.zero with
    | none => rw [hz] at h; cases h
    | some z =>
      rw [hz] at h
      simp only [Option.map_some, Option.some.injEq] at h
      exact ⟨i, z, hi, hz, fun c => by rw [h]; exact hr c⟩
theorem vw_push {F0 : Nat → Bool} {os : List (Nat → Bool)} {o : Nat → Bool} {w w' : World} (hb : Below w.heap.size w w') (ho : ∀ b, o b = true → w.heap.size ≤ b) : Mem.le (vw (pf F0 os) w) (vw (pf F0 (os ++ [o])) w') := by
  intro a u e
  unfold vw at e ⊢
  split at e
  · cases e
  · rename_i hf
    have hlt := cell_lt e
    rw [if_neg, hb.cell hlt]
    · exact e
    · intro hh
      rcases pf_iff.1 hh with hh | ⟨i, x, hi, hx⟩
      · exact hf (pf_iff.2 (.inl hh))
      · rw [List.getElem?_append] at hi
        split at hi
        · exact hf (pf_iff.2 (.inr ⟨i, x, hi, hx⟩))
        · have : x = o := by
            cases hq : i - os.length with
            | zero => rw [hq] at hi; simpa using hi.symm
            | succ p => rw [hq] at hi; simp at hi
          subst this
          have := ho _ hx
          omega
theorem at_push {n : Nat} {F0 : Nat → Bool} {os : List (Nat → Bool)} {o : Nat → Bool} {a : Act} {w w' : World} (h : At n (pf F0 os) Γ a w) (hb : Below w.heap.size w w') (ho : ∀ b, o b = true → w.heap.size ≤ b ∧ b < w'.heap.size) : At n (pf F0 (os ++ [o])) Γ a w' := by
  refine ⟨h.size, h.defers, fun b hb' => ?_, h.sat.mono ⟨vw_push hb (fun b hb => (ho b hb).1), (v2_below (F := pf F0 os) hb).2⟩⟩
  rcases pf_iff.1 hb' with hh | ⟨i, x, hi, hx⟩
  · exact Nat.lt_of_lt_of_le (h.own b (pf_iff.2 (.inl hh))) hb.size
  · rw [List.getElem?_append] at hi
    split at hi
    · exact Nat.lt_of_lt_of_le (h.own b (pf_iff.2 (.inr ⟨i, x, hi, hx⟩))) hb.size
    · have : x = o := by
        cases hq : i - os.length with
        | zero => rw [hq] at hi; simpa using hi.symm
        | succ p => rw [hq] at hi; simp at hi
      subst this
      exact (ho b hx).2
/-- 'var x T' in memory. -/
theorem l_alloc {ops : Array Oper} {d n : Nat} {T : TypeId} {α : Type} [Enc α] {x0 : α} {t : TypeId} {ps : String} {af : Array Edge} {r : List Oper} {F0 : Nat → Bool} {os : List (Nat → Bool)} {a : Act} {w w0 : World} {Q : Exit → Act → World → Prop}
    (hz : ZeroIs P T x0) (hA : At n (pf F0 os) Γ a w) (hB : Below w0.heap.size w0 w) (hD : Apart os) (hd : Nat.blt d n = true)
    (K : ∀ a' w' b, Below w.heap.size w w' → Below w0.heap.size w0 w' → At n (pf F0 (os ++ [bx b])) ((d, Pr.ptr b) :: Γ) a' w' → Apart (os ++ [bx b]) → OwnB T w0.heap.size (vw (pf F0 (os ++ [bx b])) w') w' b x0 → (∀ q, bx b q = true → w.heap.size ≤ q) →
      Mem.le (vw (pf F0 os) w) (vw (pf F0 (os ++ [bx b])) w') → wpList P ops Q r a' w') :
    wpList P ops Q (⟨some d, .alloc T, t, ps, af, none⟩ :: r) a w := by
  obtain ⟨i, z, hi, hzz, hrep⟩ := hz.out
  have hr1 : (execOp a.eval ⟨some d, .alloc T, t, ps, af, none⟩).run P w = .ok (.value (.pointer (some ⟨w.heap.size, 0, none⟩))) (w.alloc (.cells z.cells T)) := by
    simp [execOp, Instr.alloc, zeroValue, typeInfo, hi, hzz, newVar, newRow]
  unfold wpList
  simp only [Region.wanted, if_true]
  refine .inl (wp_of_ex ?_)
  unfold Ex
  rw [hr1]
  have hbw := below_alloc w (.cells z.cells T)
  have ho : ∀ b, bx w.heap.size b = true → w.heap.size ≤ b ∧ b < (w.alloc (.cells z.cells T)).heap.size := fun b hb => by rw [bx_iff] at hb; subst hb; simp
  refine K _ _ w.heap.size hbw (below_trans' hB hbw) ((at_push hA hbw ho).put (by simpa [Nat.blt_eq] using hd) rfl) (apart_push hD hA.own fun b hb => (ho b hb).1) ⟨⟨z.cells, heap_alloc_new w _, hrep _⟩, hB.size⟩ (fun b hb => (ho b hb).1) (vw_push hbw fun b hb => (ho b hb).1)
/-- 'x = y' in memory. -/
theorem l_store {ops : Array Oper} {n k p b : Nat} {T : TypeId} {y : Operand} {α : Type} [Enc α] {x z : α} {t : TypeId} {ps : String} {af : Array Edge} {r : List Oper} {F0 : Nat → Bool} {os : List (Nat → Bool)} {a : Act} {w w0 : World} {Q : Exit → Act → World → Prop}
    (hT : TyP P T α) (hk : os[k]? = some (bx b)) (hA : At n (pf F0 os) Γ a w) (hB : Below w0.heap.size w0 w) (hO : OwnB T w0.heap.size (vw (pf F0 os) w) w b x) (hC : AllC Γ) (hp : lk Γ p = some (Pr.ptr b)) (hy : Od Γ y (isV z))
    (K : ∀ w', Below w0.heap.size w0 w' → At n (pf F0 os) Γ a w' → OwnB T w0.heap.size (vw (pf F0 os) w') w' b z → (∀ q, q < w.heap.size → bx b q = false → w'.heap[q]? = w.heap[q]?) → Mem.le (vw (pf F0 os) w) (vw (pf F0 os) w') → w.heap.size ≤ w'.heap.size → wpList P ops Q r a w') :
    wpList P ops Q (⟨none, .store T (.tmp p) y, t, ps, af, none⟩ :: r) a w := by
  have hm : ∀ xs, Met Γ xs (v2 (pf F0 os) w) a := hA.met
  have hyv : val (vw (pf F0 os) w) (a.eval y) z := hy.get (hm [y]) (by simp)
  have hpv : a.eval (.tmp p) = .pointer (some ⟨b, 0, none⟩) := hA.sat p _ hp
  obtain ⟨cur, h1, h2⟩ := hO.out
  obtain ⟨i, hi, hsz⟩ := hT.info
  have hcells := val_cells hyv
  have hlen := Enc.len hcells
  have hone := Enc.cell hcells
  have hcur := Enc.len h2
  have hst := run_storeCells_at P b 0 T (a.eval y).cells.toList 0 cur w h1 (by rw [hlen]; simp at hcur; omega) hone
  have hcs : (a.eval y).cells.size = i.size := by rw [hsz, ← hlen]; simp
  have hcat : cur.toList.take 0 ++ (a.eval y).cells.toList ++ cur.toList.drop (0 + (a.eval y).cells.toList.length) = (a.eval y).cells.toList := by
    rw [List.take_zero, List.nil_append, List.drop_eq_nil_of_le (by rw [hlen]; omega), List.append_nil]
  have hr : (execOp a.eval ⟨none, .store T (.tmp p) y, t, ps, af, none⟩).run P w = .ok .skip (w.setRow b (a.eval y).cells.toList.toArray) := by
    simp only [Nat.add_zero] at hst
    rw [hcat] at hst
    simp only [execOp, hpv, Instr.storeAt, Instr.sureAddr, storeVar, Go.sizeOf, typeInfo, Sem.run_bind, run_program, Result.andThen_ok, hi, Sem.run_pure]
    simp [hcs, hst]
  unfold wpList
  simp only [Region.wanted, if_true]
  refine .inl (wp_of_ex ?_)
  unfold Ex
  rw [hr]
  have hblk : ∀ q, q < w.heap.size → bx b q = false → (w.setRow b (a.eval y).cells.toList.toArray).heap[q]? = w.heap[q]? := fun q hq hb => setRow_other _ _ _ _ (fun e => by rw [bx_iff.2 e] at hb; cases hb)
  have hset : os.set k (bx b) = os := by
    apply List.ext_getElem?
    intro j
    rw [List.getElem?_set]
    split
    · rename_i e; subst e; rw [if_pos (List.getElem?_eq_some_iff.1 hk).1, hk]
    · rfl
  have hle : Mem.le (vw (pf F0 os) w) (vw (pf F0 os) (w.setRow b (a.eval y).cells.toList.toArray)) := by
    have := vw_turn (F0 := F0) hk hblk (o' := bx b) (fun q hq => .inl hq)
    rwa [hset] at this
  have hsize : (w.setRow b (a.eval y).cells.toList.toArray).heap.size = w.heap.size := by simp
  refine K _ (hB.trans ⟨rfl, rfl, rfl, by rw [hsize]; exact Nat.le_refl _, fun q hq => setRow_other _ _ _ _ (fun e => by have := hO.ge; omega), Nat.le_refl _⟩) (hA.turn hC hle fun q hq => by rw [hsize]; exact hA.own q hq) ⟨⟨_, setRow_heap w b cur _ T _ h1, Enc.mono hle (by simpa using hcells)⟩, hO.ge⟩ hblk hle (by rw [hsize]; exact Nat.le_refl _)
theorem at_freezeB {α : Type} [Enc α] {T : TypeId} {n t k b : Nat} {F0 : Nat → Bool} {os : List (Nat → Bool)} {a : Act} {w w0 : World} {x : α} (hF0 : ∀ b, F0 b = true → b < w0.heap.size) (hD : Apart os) (hk : os[k]? = some (bx b))
    (hO : OwnB T w0.heap.size (vw (pf F0 os) w) w b x) (h : At n (pf F0 os) Γ a w) (e : lk Γ t = some (Pr.ptr b)) : At n (pf F0 (os.eraseIdx k)) ((t, isA x) :: Γ) a w := by
  have h1 := at_drop k h
  refine ⟨h1.size, h1.defers, h1.own, fun s φ hs => ?_⟩
  unfold lk at hs
  cases hb : Nat.beq t s with
  | true =>
    rw [hb] at hs
    simp only [cond_true, Option.some.injEq] at hs
    have := Nat.eq_of_beq_eq_true hb
    subst hs; subst this
    have hv : tmp a t = .pointer (some ⟨b, 0, none⟩) := h.sat t _ e
    obtain ⟨cur, h2, h3⟩ := hO.out
    refine ⟨b, 0, hv, cur.toList, Enc.mono (vw_less fun _ hb => pf_erase hb) h3, fun j u ej => ?_⟩
    have hn : pf F0 (os.eraseIdx k) b = false := erase_out hD hk (bx_iff.2 rfl) (by
      cases hf : F0 b with
      | false => rfl
      | true => have := hO.ge; have := hF0 b hf; omega)
    show vw _ _ _ = _
    unfold vw
    rw [if_neg (by simp [hn]), cell_of_row w b _ cur T (0, 0) h2, Nat.zero_add]
    simpa using ej
  | false => rw [hb] at hs; exact h1.sat s φ hs
theorem run_cell {α : Type} [Enc α] {T t : Nat} {F : Nat → Bool} {a : Act} {w : World} {x : α} (hT : TyP P T α) (h : (isA x).p (v2 F w) (tmp a t)) :
    ∃ v, (do loadVar T (← asAddr (a.tmps.getD t undef)) : Sem Value).run P w = .ok v w ∧ (isV x).p (v2 F w) v := by
  obtain ⟨b, off, hv, hh⟩ := h
  obtain ⟨v, hr, hval⟩ := run_load_holds (P := P) hT (c := vw F w) (fun _ _ h => vw_cell h) hh
  have hv' : a.tmps.getD t undef = .pointer (some ⟨b, off, none⟩) := hv
  exact ⟨v, by rw [hv']; simp [asAddr, hr], hval⟩
end
end Go.Proofs.YtjlagmcdoobimaaGreatDoor.Wh

namespace Go.Proofs.YtjlagmcdoobimaaGreatDoor.Wh
open Go Go.RowKit

structure OwnT {α : Type} [Enc α] (RT E : TypeId) (B : Nat) (c : Mem) (w : World) (v : Value) (o : Nat → Bool) (rs : List Value) (rows : List (List α)) : Prop where
  out : w.ownsRow B RT 1 v rows.length rs ∧
    (∀ (i : Nat) (u : Value) (r : List α), rs[i]? = some u → rows[i]? = some r → ∃ cells, w.ownsRow B E (Enc.size α) u r.length cells ∧ RepL c cells r) ∧
    (∀ (i j : Nat) (u u' : Value) (b : Nat), rs[i]? = some u → rs[j]? = some u' → u.ownBlock = some b → u'.ownBlock = some b → i = j) ∧
    (∀ (i : Nat) (u : Value) (b : Nat), rs[i]? = some u → u.ownBlock = some b → v.ownBlock ≠ some b) ∧
    (∀ b, v.ownBlock = some b → o b = true) ∧ (∀ (i : Nat) (u : Value) (b : Nat), rs[i]? = some u → u.ownBlock = some b → o b = true)
  lt : ∀ b, o b = true → B ≤ b ∧ b < w.heap.size
theorem ownsRow_kept {w w' : World} {B E size n : Nat} {v : Value} {xs : List Value} (h : w.ownsRow B E size v n xs) (hb : ∀ k, v.ownBlock = some k → w'.heap[k]? = w.heap[k]?) : w'.ownsRow B E size v n xs := by
  refine ⟨h.1, ?_⟩
  rcases h.2 with h1 | ⟨g, cap, cur, rfl, h2, h3, h4⟩
  · exact .inl h1
  · exact .inr ⟨g, cap, cur, rfl, h2, (hb g rfl).trans h3, h4⟩
theorem ownT_kept {α : Type} [Enc α] {RT E : TypeId} {B : Nat} {c c' : Mem} {w w' : World} {v : Value} {o : Nat → Bool} {rs : List Value} {rows : List (List α)} (h : OwnT RT E B c w v o rs rows) (hc : Mem.le c c') (hs : w.heap.size ≤ w'.heap.size)
    (hb : ∀ k, o k = true → w'.heap[k]? = w.heap[k]?) : OwnT RT E B c' w' v o rs rows := by
  obtain ⟨h1, h2, h3, h4, h5, h6⟩ := h.out
  refine ⟨⟨ownsRow_kept h1 (fun k hk => hb k (h5 k hk)), fun i u r hu hr => ?_, h3, h4, h5, h6⟩, fun b hb' => ⟨(h.lt b hb').1, Nat.lt_of_lt_of_le (h.lt b hb').2 hs⟩⟩
  obtain ⟨cells, hc1, hc2⟩ := h2 i u r hu hr
  exact ⟨cells, ownsRow_kept hc1 (fun k hk => hb k (h6 i u k hu hk)), hc2.mono hc⟩
/-! ### facts on a table and its parts, at this moment -/
def RowM {α : Type} [Enc α] (c : Mem2) (u : Value) (r : List α) : Prop :=
  (u = .slice none 0 0 ∧ r = []) ∨ ∃ b cap cells, u = .slice (some ⟨b, 0, none⟩) r.length cap ∧ RepL c.c cells r ∧ ∀ j x, cells[j]? = some x → c.m ⟨b, j, none⟩ = some x
theorem RowM.mono {α : Type} [Enc α] {c c' : Mem2} (hc : Mem2.le c c') {u : Value} {r : List α} (h : RowM c u r) : RowM c' u r := by
  rcases h with h | ⟨b, cap, cells, hu, hr, hm⟩
  · exact .inl h
  · exact .inr ⟨b, cap, cells, hu, hr.mono hc.1, fun j x e => hc.2 _ _ (hm j x e)⟩
/-- the place of row i -/
def isTP (v : Value) (i : Nat) : Pr := ⟨fun _ u => ∃ g n cap, v = .slice (some ⟨g, 0, none⟩) n cap ∧ u = .pointer (some ⟨g, i, none⟩), fun _ h => h⟩
/-- the place of element j of row i -/
def isHA (α : Type) [Enc α] (rs : List Value) (i j : Nat) : Pr := ⟨fun _ u => ∃ b n cap, rs[i]? = some (.slice (some ⟨b, 0, none⟩) n cap) ∧ u = .pointer (some ⟨b, j * Enc.size α, none⟩), fun _ h => h⟩
/-- the table itself -/
def isTab {α : Type} [Enc α] (v : Value) (rs : List Value) (rows : List (List α)) : Pr :=
  ⟨fun c u => u = v ∧ ((v = .slice none 0 0 ∧ rows = []) ∨ ∃ g cap, v = .slice (some ⟨g, 0, none⟩) rows.length cap ∧ ∀ (i : Nat) (r : List α), rows[i]? = some r → ∃ x, rs[i]? = some x ∧ c.m ⟨g, i, none⟩ = some x ∧ RowM c x r),
   fun hc h => ⟨h.1, h.2.imp id fun ⟨g, cap, hv, hr⟩ => ⟨g, cap, hv, fun i r e => by obtain ⟨x, h0, h1, h2⟩ := hr i r e; exact ⟨x, h0, hc.2 _ _ h1, h2.mono hc⟩⟩⟩⟩
/-- the place of row i, and the row -/
def isTRA {α : Type} [Enc α] (v : Value) (rs : List Value) (i : Nat) (r : List α) : Pr :=
  ⟨fun c u => ∃ g n cap x, v = .slice (some ⟨g, 0, none⟩) n cap ∧ u = .pointer (some ⟨g, i, none⟩) ∧ rs[i]? = some x ∧ c.m ⟨g, i, none⟩ = some x ∧ RowM c x r,
   fun hc h => by obtain ⟨g, n, cap, x, h1, h2, h0, h3, h4⟩ := h; exact ⟨g, n, cap, x, h1, h2, h0, hc.2 _ _ h3, h4.mono hc⟩⟩
/-- row i, and what it holds -/
def isTR {α : Type} [Enc α] (rs : List Value) (i : Nat) (r : List α) : Pr :=
  ⟨fun c u => rs[i]? = some u ∧ RowM c u r, fun hc h => ⟨h.1, h.2.mono hc⟩⟩
/-- the place of element j of row i, and the element -/
def isTA {α : Type} [Enc α] (rs : List Value) (i j : Nat) (y : α) : Pr :=
  ⟨fun c u => ∃ b k cap' vs, rs[i]? = some (.slice (some ⟨b, 0, none⟩) k cap') ∧ u = .pointer (some ⟨b, j * Enc.size α, none⟩) ∧ Enc.rep c.c vs y ∧ ∀ q x, vs[q]? = some x → c.m ⟨b, j * Enc.size α + q, none⟩ = some x,
   fun hc h => by obtain ⟨b, k, cap', vs, h1, h3, h4, h5⟩ := h; exact ⟨b, k, cap', vs, h1, h3, Enc.mono hc.1 h4, fun q x e => hc.2 _ _ (h5 q x e)⟩⟩
theorem odTP {α : Type} [Enc α] {Γ : List (Nat × Pr)} {t i : Nat} {v : Value} {rs : List Value} {r : List α} (h : lk Γ t = some (isTRA v rs i r)) : Od Γ (.tmp t) (isTP v i) :=
  ⟨_, h, fun _ _ k => by obtain ⟨g, n, cap, x, h1, h2, _⟩ := k; exact ⟨g, n, cap, h1, h2⟩⟩
theorem odHA {α : Type} [Enc α] {Γ : List (Nat × Pr)} {t i j : Nat} {rs : List Value} {y : α} (h : lk Γ t = some (isTA rs i j y)) : Od Γ (.tmp t) (isHA α rs i j) :=
  ⟨_, h, fun _ _ k => by obtain ⟨b, n, cap, vs, h1, h2, _⟩ := k; exact ⟨b, n, cap, h1, h2⟩⟩
/-- facts that are let go, in part or whole -/
def AllOd (Γ : List (Nat × Pr)) : List (Nat × Pr) → Prop
  | [] => True
  | e :: r => Od Γ (.tmp e.1) e.2 ∧ AllOd Γ r
theorem od_lk {Γ : List (Nat × Pr)} : ∀ {Δ : List (Nat × Pr)}, AllOd Γ Δ → ∀ {t : Nat} {φ : Pr}, lk Δ t = some φ → Od Γ (.tmp t) φ
  | [], _, t, φ, e => by cases e
  | (d, ψ) :: r, h, t, φ, e => by
    unfold lk at e
    cases hb : Nat.beq d t with
    | true => rw [hb] at e; simp only [cond_true, Option.some.injEq] at e; subst e; have := Nat.eq_of_beq_eq_true hb; subst this; exact h.1
    | false => rw [hb] at e; exact od_lk h.2 e
theorem At.weak {Γ Δ : List (Nat × Pr)} {n : Nat} {F : Nat → Bool} {a : Act} {w : World} (h : At n F Γ a w) (hl : AllOd Γ Δ) : At n F Δ a w :=
  ⟨h.size, h.defers, h.own, fun t φ e => by obtain ⟨ψ, h1, h2⟩ := od_lk hl e; exact h2 _ _ (h.sat t ψ h1)⟩
section
variable {P : Program} {Γ : List (Nat × Pr)} {ty : TypeId}
theorem cells_m {w : World} {B E size n : Nat} {v : Value} {xs : List Value} (h : w.ownsRow B E size v n xs) {g : Nat} (hg : v.ownBlock = some g) (j : Nat) (u : Value) (e : xs[j]? = some u) : w.cell? ⟨g, j, none⟩ = some u := by
  have := h.cells hg j u e
  rwa [Addr.add_lit, Nat.zero_add] at this
theorem own_rowM {α : Type} [Enc α] {E B : Nat} {F : Nat → Bool} {w : World} {u : Value} {r : List α} {cells : List Value} (h : w.ownsRow B E (Enc.size α) u r.length cells) (hl : RepL (vw F w) cells r) : RowM (v2 F w) u r := by
  rcases h.2 with ⟨rfl, h0⟩ | ⟨g, cap, cur, rfl, _⟩
  · exact .inl ⟨rfl, List.eq_nil_of_length_eq_zero h0⟩
  · exact .inr ⟨g, cap, cells, rfl, hl, fun j x e => cells_m h rfl j x e⟩
theorem at_tab {α : Type} [Enc α] {RT E : TypeId} {B n t : Nat} {F : Nat → Bool} {a : Act} {w : World} {v : Value} {o : Nat → Bool} {rs : List Value} {rows : List (List α)} (hO : OwnT RT E B (vw F w) w v o rs rows) (h : At n F Γ a w) (e : lk Γ t = some (Pr.is v)) : At n F ((t, isTab v rs rows) :: Γ) a w := by
  refine ⟨h.size, h.defers, h.own, fun s φ hs => ?_⟩
  unfold lk at hs
  cases hb : Nat.beq t s with
  | true =>
    rw [hb] at hs
    simp only [cond_true, Option.some.injEq] at hs
    have := Nat.eq_of_beq_eq_true hb
    subst hs; subst this
    refine ⟨h.sat t _ e, ?_⟩
    obtain ⟨h1, h2, _⟩ := hO.out
    have hrl : rs.length = rows.length := by rw [h1.1, Nat.mul_one]
    rcases h1.2 with ⟨hv, h0⟩ | ⟨g, cap, cur, hv, _⟩
    · exact .inl ⟨hv, List.eq_nil_of_length_eq_zero h0⟩
    · refine .inr ⟨g, cap, hv, fun i r er => ?_⟩
      have hi : i < rs.length := by rw [hrl]; exact (List.getElem?_eq_some_iff.1 er).1
      obtain ⟨cells, hc1, hc2⟩ := h2 i rs[i] r (List.getElem?_eq_getElem hi) er
      exact ⟨rs[i], List.getElem?_eq_getElem hi, cells_m h1 (by rw [hv]; rfl) i _ (List.getElem?_eq_getElem hi), own_rowM hc1 hc2⟩
  | false => rw [hb] at hs; exact h.sat s φ hs
theorem sp_lenT {α : Type} [Enc α] {x : Operand} {T E : TypeId} {v : Value} {rs : List Value} {rows : List (List α)} (hT : P.underlying T = some (.slice E)) (hx : Od Γ x (isTab v rs rows)) : StepP P (.call { callee := .builtin .len, args := #[x], argTypes := #[T] }) ty Γ (isV (rows.length : Int)) :=
  step_pure fun c w a hc hm => by
    obtain ⟨h1, h2⟩ := hx.get hm (by simp [Op.operands, Call.operands])
    obtain ⟨a', cap, hv⟩ : ∃ a' cap, v = .slice a' rows.length cap := by
      rcases h2 with ⟨rfl, rfl⟩ | ⟨g, cap, hv, _⟩
      · exact ⟨none, 0, rfl⟩
      · exact ⟨_, cap, hv⟩
    refine ⟨.int .i64 rows.length, ?_, rfl⟩
    simp [execOp, plain, resolve, invoke, builtin, Builtin.len_, h1, hv, run_underlying hT, goInt]
theorem sp_indexAddrT {α : Type} [Enc α] {x k : Operand} {T RT : TypeId} {v : Value} {rs : List Value} {rows : List (List α)} {i : Int} {r : List α} (hT : P.underlying T = some (.slice RT)) (hR : (P.info? RT).map (·.size) = some 1) (hx : Od Γ x (isTab v rs rows)) (hk : Od Γ k (isV i)) (h : idx rows i = some r) :
    StepP P (.indexAddr T x k) ty Γ (isTRA v rs i.toNat r) :=
  step_pure fun c w a hc hm => by
    have hkv := get_int hk hm (by simp [Op.operands])
    obtain ⟨h1, h2⟩ := hx.get hm (by simp [Op.operands])
    obtain ⟨h0, hlt, he⟩ := idx_some h
    have hr : rows[i.toNat]? = some r := by rw [List.getElem?_eq_getElem hlt, he]
    rcases h2 with ⟨_, rfl⟩ | ⟨g, cap, hv, hrow⟩
    · simp at hlt
    · obtain ⟨y, hy0, hy1, hy2⟩ := hrow _ _ hr
      refine ⟨.pointer (some ⟨g, i.toNat, none⟩), ?_, g, _, cap, y, hv, rfl, hy0, hy1, hy2⟩
      have hi : 0 ≤ i ∧ i < (rows.length : Int) := ⟨h0, by omega⟩
      cases hin : P.info? RT with
      | none => rw [hin] at hR; cases hR
      | some inf =>
        rw [hin] at hR
        have hs : inf.size = 1 := by simpa using hR
        simp [execOp, plain, hkv, h1, hv, Instr.indexAt, asIntOf, run_underlying hT, hi, Go.sizeOf, typeInfo, hin, hs, Addr.add_lit]
theorem sp_loadTR {α : Type} [Enc α] {x : Operand} {RT E : TypeId} {v : Value} {rs : List Value} {i : Nat} {r : List α} (hT : P.underlying RT = some (.slice E)) (hx : Od Γ x (isTRA v rs i r)) : StepP P (.load RT x) ty Γ (isTR rs i r) :=
  step_pure fun c w a hc hm => by
    obtain ⟨g, n, cap, y, h1, h2, h0, h3, h4⟩ := hx.get hm (by simp [Op.operands])
    refine ⟨y, ?_, h0, h4⟩
    have := hc.2 _ _ h3
    simp [execOp, plain, h2, Instr.loadAt, Instr.sureAddr, loadVar, isAgg, run_underlying hT, this]
theorem sp_indexAddrTA {α : Type} [Enc α] {x k : Operand} {RT E : TypeId} {rs : List Value} {i : Nat} {r : List α} {j : Int} {y : α} (hT : SlP P RT E α) (hx : Od Γ x (isTR rs i r)) (hk : Od Γ k (isV j)) (h : idx r j = some y) : StepP P (.indexAddr RT x k) ty Γ (isTA rs i j.toNat y) :=
  step_pure fun c w a hc hm => by
    have hkv := get_int hk hm (by simp [Op.operands])
    obtain ⟨h2, h3⟩ := hx.get hm (by simp [Op.operands])
    obtain ⟨h0, hlt, he⟩ := idx_some h
    rcases h3 with ⟨_, rfl⟩ | ⟨b, cap', cells, hu, hl, hmm⟩
    · simp at hlt
    · obtain ⟨vs, hr, hv⟩ := hl.get j.toNat hlt
      refine ⟨.pointer (some ⟨b, j.toNat * Enc.size α, none⟩), ?_, b, _, cap', vs, by rw [← hu]; exact h2, rfl, by rw [← he]; exact hr, fun q z e => hmm _ _ (hv q z e)⟩
      have hi : 0 ≤ j ∧ j < (r.length : Int) := ⟨h0, by omega⟩
      simp [execOp, plain, hkv, hu, Instr.indexAt, asIntOf, run_underlying hT.desc, hi, hT.elem.sizeOf w, Addr.add_lit]
theorem sp_loadTA {α : Type} [Enc α] {x : Operand} {E : TypeId} {rs : List Value} {i j : Nat} {y : α} (hT : TyP P E α) (hx : Od Γ x (isTA rs i j y)) : StepP P (.load E x) ty Γ (isV y) :=
  step_pure fun c w a hc hm => by
    obtain ⟨b, k, cap', vs, h2, h3, h4, h5⟩ := hx.get hm (by simp [Op.operands])
    obtain ⟨u, hrun, hval⟩ := run_load_cells (P := P) hT h4 (fun q z e => hc.2 _ _ (h5 q z e))
    exact ⟨u, by simp [execOp, plain, h3, Instr.loadAt, Instr.sureAddr, hrun], hval⟩

/-! ### what is written -/
theorem set_self {os : List (Nat → Bool)} {k : Nat} {o : Nat → Bool} (hk : os[k]? = some o) : os.set k o = os := by
  apply List.ext_getElem?
  intro j
  rw [List.getElem?_set]
  split
  · rename_i e; subst e; rw [if_pos (List.getElem?_eq_some_iff.1 hk).1, hk]
  · rfl
theorem RepL.set {α : Type} [Enc α] {c : Mem} : ∀ {cells : List Value} {xs : List α} (j : Nat) {vs : List Value} {z : α}, RepL c cells xs → Enc.rep c vs z → j < xs.length →
    RepL c (cells.take (j * Enc.size α) ++ vs ++ cells.drop (j * Enc.size α + vs.length)) (xs.set j z)
  | _, [], j, _, _, _, _, h => absurd h (by simp)
  | _, x :: r, 0, vs, z, ⟨v1, v2, he, h1, h2⟩, hz, _ => by
    subst he
    refine ⟨vs, v2, ?_, hz, h2⟩
    rw [Nat.zero_mul, List.take_zero, List.nil_append, Nat.zero_add, Enc.len hz, ← Enc.len h1, List.drop_left]
  | _, x :: r, j + 1, vs, z, ⟨v1, v2, he, h1, h2⟩, hz, hj => by
    subst he
    refine ⟨v1, _, ?_, h1, RepL.set j h2 hz (by simpa using hj)⟩
    have e1 : (j + 1) * Enc.size α = v1.length + j * Enc.size α := by rw [Enc.len h1, Nat.add_mul]; omega
    rw [e1, List.take_append, List.take_of_length_le (by omega), Nat.add_sub_cancel_left]
    rw [List.append_assoc v1, List.append_assoc v1]
    congr 1
    rw [Nat.add_assoc, List.drop_append, List.drop_eq_nil_of_le (by omega), List.nil_append]
    congr 2
    omega
/-- 't[i][j] = z'. -/
theorem l_storeTA {ops : Array Oper} {n k p : Nat} {i j : Int} {RT E : TypeId} {y : Operand} {α : Type} [Enc α] {z : α} {rs : List Value} {rows rows' : List (List α)} {v : Value} {o : Nat → Bool} {t : TypeId} {ps : String} {af : Array Edge} {r : List Oper} {F0 : Nat → Bool} {os : List (Nat → Bool)} {a : Act} {w w0 : World} {Q : Exit → Act → World → Prop}
    (hT : TyP P E α) (hk : os[k]? = some o) (hA : At n (pf F0 os) Γ a w) (hB : Below w0.heap.size w0 w) (hO : OwnT RT E w0.heap.size (vw (pf F0 os) w) w v o rs rows) (hp : Od Γ (.tmp p) (isHA α rs i.toNat j.toNat)) (hy : Od Γ y (isV z)) (hset : set2 rows i j z = some rows')
    {Δ : List (Nat × Pr)} (hl : AllOd Γ Δ) (hC : AllC Δ)
    (K : ∀ w', Below w0.heap.size w0 w' → At n (pf F0 os) Δ a w' → OwnT RT E w0.heap.size (vw (pf F0 os) w') w' v o rs rows' → (∀ q, q < w.heap.size → o q = false → w'.heap[q]? = w.heap[q]?) → w.heap.size ≤ w'.heap.size → Mem.le (vw (pf F0 os) w) (vw (pf F0 os) w') → wpList P ops Q r a w') :
    wpList P ops Q (⟨none, .store E (.tmp p) y, t, ps, af, none⟩ :: r) a w := by
  have hm : ∀ xs, Met Γ xs (v2 (pf F0 os) w) a := hA.met
  have hyv : val (vw (pf F0 os) w) (a.eval y) z := hy.get (hm [y]) (by simp)
  obtain ⟨b, kk, cap', hrow, hpv⟩ := hp.get (hm [.tmp p]) (by simp)
  have hpv : a.eval (.tmp p) = .pointer (some ⟨b, j.toNat * Enc.size α, none⟩) := hpv
  -- the places
  unfold set2 at hset
  obtain ⟨rw_, hi1, hset⟩ := bind_some hset
  obtain ⟨r', hj1, hset⟩ := bind_some hset
  obtain ⟨hi0, hilt, hie⟩ := idx_some hi1
  unfold set1 at hj1 hset
  split at hj1
  · cases hj1
  rename_i hj0
  split at hj1
  case isFalse => cases hj1
  rename_i hjlt
  split at hset
  · cases hset
  cases hj1
  cases hset
  obtain ⟨h1, h2, h3, h4, h5, h6⟩ := hO.out
  have hrl : rs.length = rows.length := by rw [h1.1, Nat.mul_one]
  have hii : i.toNat < rs.length := by omega
  have hrsi : rs[i.toNat]? = some rs[i.toNat] := List.getElem?_eq_getElem hii
  have hrowi : rows[i.toNat]? = some rw_ := by rw [List.getElem?_eq_getElem hilt, hie]
  have hue : rs[i.toNat] = .slice (some ⟨b, 0, none⟩) kk cap' := by rw [hrsi] at hrow; exact Option.some.inj hrow
  obtain ⟨cells, hc1, hc2⟩ := h2 _ _ _ hrsi hrowi
  rcases hc1.2 with ⟨hn, _⟩ | ⟨b', cap'', cur, hub, hBb, hheap, hlc, hcm, hcs, htake⟩
  · rw [hue] at hn; cases hn
  have hbb : b' = b := by rw [hue] at hub; cases hub; rfl
  subst hbb
  have hob : o b' = true := h6 _ _ b' hrsi (by rw [hue]; rfl)
  have hcells := val_cells hyv
  have hlen := Enc.len hcells
  have hone := Enc.cell hcells
  obtain ⟨inf, hinf, hsz⟩ := hT.info
  have hpos : (j.toNat + 1) * Enc.size α ≤ cap'' * Enc.size α := Nat.mul_le_mul_right _ (by omega)
  have hfit : j.toNat * Enc.size α + 0 + (a.eval y).cells.toList.length ≤ cur.size := by rw [hlen, hcs]; rw [Nat.add_mul] at hpos; omega
  have hst := run_storeCells_at P b' (j.toNat * Enc.size α) E (a.eval y).cells.toList 0 cur w hheap hfit hone
  have hcs2 : (a.eval y).cells.size = inf.size := by rw [hsz, ← hlen]; simp
  have hr : (execOp a.eval ⟨none, .store E (.tmp p) y, t, ps, af, none⟩).run P w = .ok .skip (w.setRow b' (cur.toList.take (j.toNat * Enc.size α) ++ (a.eval y).cells.toList ++ cur.toList.drop (j.toNat * Enc.size α + (a.eval y).cells.toList.length)).toArray) := by
    simp only [Nat.add_zero] at hst
    simp only [execOp, hpv, Instr.storeAt, Instr.sureAddr, storeVar, Go.sizeOf, typeInfo, Sem.run_bind, run_program, Result.andThen_ok, hinf, Sem.run_pure]
    simp [hcs2, hst]
  generalize hnew : cur.toList.take (j.toNat * Enc.size α) ++ (a.eval y).cells.toList ++ cur.toList.drop (j.toNat * Enc.size α + (a.eval y).cells.toList.length) = new at hr
  have hnl : new.length = cap'' * Enc.size α := by
    rw [← hnew]; simp only [List.length_append, List.length_take, List.length_drop, Array.length_toList]
    simp only [Nat.add_zero] at hfit
    have : (a.eval y).cells.toList.length = Enc.size α := hlen
    omega
  unfold wpList
  simp only [Region.wanted, if_true]
  refine .inl (wp_of_ex ?_)
  unfold Ex
  rw [hr]
  have hblk : ∀ q, q ≠ b' → (w.setRow b' new.toArray).heap[q]? = w.heap[q]? := fun q hq => setRow_other _ _ _ _ hq
  have hblk' : ∀ q, q < w.heap.size → o q = false → (w.setRow b' new.toArray).heap[q]? = w.heap[q]? := fun q _ hq => hblk q (fun e => by subst e; rw [hob] at hq; cases hq)
  have hle : Mem.le (vw (pf F0 os) w) (vw (pf F0 os) (w.setRow b' new.toArray)) := by
    have := vw_turn (F0 := F0) hk hblk' (o' := o) (fun q hq => .inl hq)
    rwa [set_self hk] at this
  have hsize : (w.setRow b' new.toArray).heap.size = w.heap.size := by simp
  have hBw : Below w0.heap.size w0 (w.setRow b' new.toArray) := hB.trans ⟨rfl, rfl, rfl, by rw [hsize]; exact Nat.le_refl _, fun q hq => hblk q (fun e => by omega), Nat.le_refl _⟩
  refine K _ hBw ((hA.weak hl).turn hC hle fun q hq => by rw [hsize]; exact hA.own q hq) ⟨⟨?_, fun i' u r2 hu hr2 => ?_, h3, h4, h5, h6⟩, fun q hq => by rw [hsize]; exact hO.lt q hq⟩ hblk' (by rw [hsize]; exact Nat.le_refl _) hle
  · rw [List.length_set]
    exact ownsRow_kept h1 (fun q hq => hblk q (fun e => by subst e; exact h4 _ _ q hrsi (by rw [hue]; rfl) hq))
  · rw [List.getElem?_set] at hr2
    by_cases hii' : i.toNat = i'
    · subst hii'
      rw [if_pos rfl, if_pos hilt] at hr2
      cases hr2
      rw [hrsi] at hu
      cases hu
      refine ⟨cells.take (j.toNat * Enc.size α) ++ (a.eval y).cells.toList ++ cells.drop (j.toNat * Enc.size α + (a.eval y).cells.toList.length), ?_, (RepL.set j.toNat (hc2.mono hle) (Enc.mono hle hcells) hjlt)⟩
      have hjm : (j.toNat + 1) * Enc.size α ≤ rw_.length * Enc.size α := Nat.mul_le_mul_right _ (by omega)
      rw [Nat.add_mul] at hjm
      have hl1 : (a.eval y).cells.toList.length = Enc.size α := hlen
      refine ⟨?_, .inr ⟨b', cap'', new.toArray, by rw [List.length_set]; exact hub, hBb, setRow_heap w b' cur _ E _ hheap, by rw [List.length_set]; exact hlc, hcm, by simpa using hnl, ?_⟩⟩
      · have := RepL.len (RepL.set j.toNat hc2 hcells hjlt)
        exact this
      · rw [← hnew, List.length_set, ← htake]
        simp only [List.toList_toArray]
        apply List.ext_getElem?
        intro q
        have hcl : cur.toList.length = cap'' * Enc.size α := by simpa using hcs
        have hlc' : rw_.length * Enc.size α ≤ cap'' * Enc.size α := Nat.mul_le_mul_right _ hlc
        simp only [List.getElem?_take, List.getElem?_append, List.length_take, List.length_append, List.getElem?_drop, hcl]
        by_cases q1 : q < rw_.length * Enc.size α
        · rw [if_pos q1]
          by_cases q2 : q < j.toNat * Enc.size α
          · have e1 : min (j.toNat * Enc.size α) (cap'' * Enc.size α) = j.toNat * Enc.size α := by omega
            have e2 : min (j.toNat * Enc.size α) (min (rw_.length * Enc.size α) (cap'' * Enc.size α)) = j.toNat * Enc.size α := by omega
            rw [e1, e2]
            simp only [show q < j.toNat * Enc.size α + (a.eval y).cells.toList.length by omega, q2, q1, if_true]
          · have e1 : min (j.toNat * Enc.size α) (cap'' * Enc.size α) = j.toNat * Enc.size α := by omega
            have e2 : min (j.toNat * Enc.size α) (min (rw_.length * Enc.size α) (cap'' * Enc.size α)) = j.toNat * Enc.size α := by omega
            rw [e1, e2]
            by_cases q3 : q < j.toNat * Enc.size α + (a.eval y).cells.toList.length
            · simp only [q3, q2, if_true, if_false]
            · simp only [q3, if_false]
              have e3 : j.toNat * Enc.size α + (a.eval y).cells.toList.length + (q - (j.toNat * Enc.size α + (a.eval y).cells.toList.length)) = q := by omega
              rw [e3]
              simp only [q1, if_true]
        · rw [if_neg q1]
          symm
          have e2 : min (j.toNat * Enc.size α) (min (rw_.length * Enc.size α) (cap'' * Enc.size α)) = j.toNat * Enc.size α := by omega
          rw [e2]
          simp only [show ¬ q < j.toNat * Enc.size α + (a.eval y).cells.toList.length by omega, if_false]
          rw [if_neg (by omega)]
    · rw [if_neg hii'] at hr2
      obtain ⟨cells2, hd1, hd2⟩ := h2 i' u r2 hu hr2
      exact ⟨cells2, ownsRow_kept hd1 (fun q hq => hblk q (fun e => by subst e; exact hii' (h3 _ _ _ _ q hrsi hu (by rw [hue]; rfl) hq))), hd2.mono hle⟩
/-- A table that is written no more reads as a slice of slices. -/
theorem at_freezeT {α : Type} [Enc α] {RT E : TypeId} {n t k : Nat} {F0 : Nat → Bool} {v : Value} {o : Nat → Bool} {os : List (Nat → Bool)} {a : Act} {w w0 : World} {rs : List Value} {rows : List (List α)} (hF0 : ∀ b, F0 b = true → b < w0.heap.size) (hD : Apart os) (hk : os[k]? = some o)
    (hO : OwnT RT E w0.heap.size (vw (pf F0 os) w) w v o rs rows) (h : At n (pf F0 os) Γ a w) (e : lk Γ t = some (Pr.is v)) : At n (pf F0 (os.eraseIdx k)) ((t, isV rows) :: Γ) a w := by
  have h1 := at_drop k h
  refine ⟨h1.size, h1.defers, h1.own, fun s φ hs => ?_⟩
  unfold lk at hs
  cases hb : Nat.beq t s with
  | true =>
    rw [hb] at hs
    simp only [cond_true, Option.some.injEq] at hs
    have := Nat.eq_of_beq_eq_true hb
    subst hs; subst this
    have hv : tmp a t = v := h.sat t _ e
    rw [hv]
    obtain ⟨g1, g2, g3, g4, g5, g6⟩ := hO.out
    have hrl : rs.length = rows.length := by rw [g1.1, Nat.mul_one]
    have hnew : ∀ b, o b = true → pf F0 (os.eraseIdx k) b = false := fun b hb => erase_out hD hk hb (by
      cases hf : F0 b with
      | false => rfl
      | true => have := (hO.lt b hb).1; have := hF0 b hf; omega)
    have hle : Mem.le (vw (pf F0 os) w) (vw (pf F0 (os.eraseIdx k)) w) := vw_less fun _ hb => pf_erase hb
    have hsee : ∀ b j u, o b = true → w.cell? ⟨b, j, none⟩ = some u → vw (pf F0 (os.eraseIdx k)) w ⟨b, j, none⟩ = some u := fun b j u hb hu => by unfold vw; rw [if_neg (by simp [hnew b hb])]; exact hu
    rcases g1.2 with ⟨hv, h0⟩ | ⟨g, cap, cur, hvv, _, _, hlc, hcm, _⟩
    · have : rows = [] := List.eq_nil_of_length_eq_zero h0
      subst this; subst hv
      exact .inl ⟨none, 0, rfl, Nat.zero_le _, rfl⟩
    · refine .inr ⟨g, 0, cap, hvv, hlc, hcm, fun i hi => ?_⟩
      have hii : i < rs.length := by omega
      obtain ⟨cells, hc1, hc2⟩ := g2 i rs[i] rows[i] (List.getElem?_eq_getElem hii) (List.getElem?_eq_getElem hi)
      have hgo : o g = true := g5 g (by rw [hvv]; rfl)
      refine ⟨[rs[i]], ?_, fun j u ej => ?_⟩
      · show slice _ rs[i] rows[i]
        rcases hc1.2 with ⟨hn, h0⟩ | ⟨b, cap', cur', hub, _, _, hlc', hcm', _⟩
        · rw [hn]
          exact .inl ⟨none, 0, rfl, Nat.zero_le _, List.eq_nil_of_length_eq_zero h0⟩
        · refine .inr ⟨b, 0, cap', hub, hlc', hcm', fun q hq => ?_⟩
          obtain ⟨vs, hr, hvs⟩ := hc2.get q hq
          have hbo : o b = true := g6 i _ b (List.getElem?_eq_getElem hii) (by rw [hub]; rfl)
          refine ⟨vs, Enc.mono hle hr, fun p u e => ?_⟩
          rw [Nat.zero_add]
          exact hsee b _ u hbo (cells_m hc1 (by rw [hub]; rfl) _ _ (hvs p u e))
      · cases j with
        | zero =>
          simp at ej
          subst ej
          have : (0 + i * Enc.size (List α) + 0) = i := by show 0 + i * 1 + 0 = i; omega
          rw [this]
          exact hsee g i _ hgo (cells_m g1 (by rw [hvv]; rfl) i _ (List.getElem?_eq_getElem hii))
        | succ j => simp at ej
  | false => rw [hb] at hs; exact h1.sat s φ hs
/-! ### make -/
theorem repL_rep {α : Type} [Enc α] {c : Mem} {z : Value} {x : α} (h : Enc.rep c [z] x) : ∀ n, RepL c (List.replicate n z) (List.replicate n x)
  | 0 => rfl
  | n + 1 => ⟨[z], List.replicate n z, rfl, h, repL_rep h n⟩
theorem mk_some {α : Type} {n : Int} {x : α} {xs : List α} (h : mk n x = some xs) : 0 ≤ n ∧ n ≤ 4294967296 ∧ xs = List.replicate n.toNat x := by
  unfold mk at h
  split at h
  · rename_i hn; cases h; exact ⟨hn.1, hn.2, rfl⟩
  · cases h
theorem make_drawn {T E : TypeId} {i : TypeInfo} {z v : Value} {w w' : World} {n : Nat} (ht : P.underlying T = some (.slice E)) (hi : P.info? E = some i) (hz : i.zero = some z) (hb : i.bytes * n ≤ 281474976710656) (h63 : n ≤ maxLen)
    (hr : (Instr.makeSlice T (.int .i64 (n : Int)) (.int .i64 (n : Int))).run P w = .ok v w') : w.drawn ≤ w'.drawn := by
  have h63' : (n : Int) ≤ 9223372036854775807 := by
    have h := h63
    simp [maxLen] at h
    omega
  have hb' : (i.bytes : Int) * (n : Int) ≤ 281474976710656 := by
    have h : ((i.bytes * n : Nat) : Int) ≤ 281474976710656 := by omega
    rwa [Int.natCast_mul] at h
  have h2 := run_make (P := P) w T E i z ht hi hz .i64 .i64 n n (by omega) (Int.le_refl _) hb' h63'
  rw [hr] at h2
  injection h2 with _ h3
  rw [h3]
  exact Nat.le_refl _
theorem run_mk {T E : TypeId} {α : Type} [Enc α] (hT : SlP P T E α) (hz : ZeroP P E α) {x0 : α} (hz0 : ZeroIs P E x0) (h1 : Enc.size α = 1) {n : Int} {xs : List α} (h : mk n x0 = some xs) (w : World) {B : Nat} (hB : B ≤ w.heap.size) :
    ∃ w', (Instr.makeSlice T (.int .i64 n) (.int .i64 n)).run P w = .ok (.slice (some ⟨w.heap.size, 0, none⟩) xs.length xs.length) w' ∧ Below w.heap.size w w' ∧ w.heap.size < w'.heap.size ∧
      ∀ c, Own E B c w' (.slice (some ⟨w.heap.size, 0, none⟩) xs.length xs.length) xs := by
  obtain ⟨h0, hn, rfl⟩ := mk_some h
  obtain ⟨i, z, hi, hzz, hsz, hzs, hps, hby⟩ := hz.out
  obtain ⟨i', z', hi', hz', hrep⟩ := hz0.out
  rw [hi] at hi'; cases hi'
  rw [hzz] at hz'; cases hz'
  obtain ⟨k, rfl⟩ := Int.eq_ofNat_of_zero_le h0
  have hkl : k ≤ 4294967296 := by omega
  obtain ⟨w', hr, ho, hg⟩ := run_make_full (P := P) w B T E i z 1 hT.desc hi hzz (by rw [hsz, h1]) .i64 .i64 k (by
    have : i.bytes * k ≤ 16384 * 4294967296 := Nat.mul_le_mul hby hkl
    omega) (by unfold maxLen; omega) hB
  have hlt := (ho.lt w.heap.size rfl).2
  refine ⟨w', by simpa using hr, ⟨hg.os, hg.tape, hg.output, hg.size, fun q hq => hg.block q hq (by simp), dn_le (make_drawn hT.desc hi hzz (by
    have : i.bytes * k ≤ 16384 * 4294967296 := Nat.mul_le_mul hby hkl
    omega) (by unfold maxLen; omega) hr)⟩, hlt, fun c => ⟨⟨List.replicate k z.cells.toList.head!, ?_, ?_⟩⟩⟩
  · have hz1 : z.cells = #[z.cells.toList.head!] := by
      have : z.cells.size = 1 := by rw [hzs, h1]
      cases hc : z.cells with
      | mk l =>
        rw [hc] at this
        match l, this with
        | [q], _ => rfl
    rw [h1]
    simp only [List.length_replicate, Int.toNat_natCast]
    have := ho
    rw [Nat.mul_one] at this
    rw [hz1, toList_madeCells_one] at this
    simpa using this
  · have hz1 : z.cells.toList = [z.cells.toList.head!] := by
      have : z.cells.toList.length = 1 := by simp [hzs, h1]
      match hl : z.cells.toList, this with
      | [q], _ => rfl
    have := hrep c
    rw [hz1] at this
    exact repL_rep this k
/-- 'd = make([]T, n)'. -/
theorem l_make {ops : Array Oper} {d n : Nat} {T E : TypeId} {x : Operand} {α : Type} [Enc α] {x0 : α} {k : Int} {xs : List α} {t : TypeId} {ps : String} {af : Array Edge} {r : List Oper} {F0 : Nat → Bool} {os : List (Nat → Bool)} {a : Act} {w w0 : World} {Q : Exit → Act → World → Prop}
    (hT : SlP P T E α) (hz : ZeroP P E α) (hz0 : ZeroIs P E x0) (h1 : Nat.beq (Enc.size α) 1 = true) (hA : At n (pf F0 os) Γ a w) (hB : Below w0.heap.size w0 w) (hD : Apart os) (hx : Od Γ x (isV k)) (hmk : mk k x0 = some xs) (hd : Nat.blt d n = true)
    (K : ∀ a' w' v, Below w.heap.size w w' → Below w0.heap.size w0 w' → At n (pf F0 (os ++ [ob v])) ((d, Pr.is v) :: Γ) a' w' → Apart (os ++ [ob v]) → Own E w0.heap.size (vw (pf F0 (os ++ [ob v])) w') w' v xs → (∀ b, ob v b = true → w.heap.size ≤ b) →
      Mem.le (vw (pf F0 os) w) (vw (pf F0 (os ++ [ob v])) w') → wpList P ops Q r a' w') :
    wpList P ops Q (⟨some d, .makeSlice T x x, t, ps, af, none⟩ :: r) a w := by
  have hm : ∀ xs, Met Γ xs (v2 (pf F0 os) w) a := hA.met
  have hxv : a.eval x = .int .i64 k := hx.get (hm [x]) (by simp)
  obtain ⟨w', hr, hbw, hlt, hO⟩ := run_mk (P := P) hT hz hz0 (Nat.eq_of_beq_eq_true h1) hmk w hB.size
  have hr1 : (execOp a.eval ⟨some d, .makeSlice T x x, t, ps, af, none⟩).run P w = .ok (.value (.slice (some ⟨w.heap.size, 0, none⟩) xs.length xs.length)) w' := by
    simp [execOp, hxv, hr]
  unfold wpList
  simp only [Region.wanted, if_true]
  refine .inl (wp_of_ex ?_)
  unfold Ex
  rw [hr1]
  have ho : ∀ b, ob (.slice (some ⟨w.heap.size, 0, none⟩) xs.length xs.length) b = true → w.heap.size ≤ b ∧ b < w'.heap.size := fun b hb => by
    have := ob_iff.1 hb; cases this; exact ⟨Nat.le_refl _, hlt⟩
  exact K _ _ _ hbw (below_trans' hB hbw) ((at_push hA hbw ho).put (by simpa [Nat.blt_eq] using hd) rfl) (apart_push hD hA.own fun b hb => (ho b hb).1) (hO _) (fun b hb => (ho b hb).1) (vw_push hbw fun b hb => (ho b hb).1)
/-- 'd = make([][]T, n)': a table of that many empty rows. -/
theorem l_makeT {ops : Array Oper} {d n : Nat} {T RT E : TypeId} {x : Operand} {α : Type} [Enc α] {k : Int} {xs : List (List α)} {t : TypeId} {ps : String} {af : Array Edge} {r : List Oper} {F0 : Nat → Bool} {os : List (Nat → Bool)} {a : Act} {w w0 : World} {Q : Exit → Act → World → Prop}
    (hT : SlP P T RT (List α)) (hz : ZeroP P RT (List α)) (hzv : (P.info? RT).map (·.zero) = some (some (.slice none 0 0))) (hA : At n (pf F0 os) Γ a w) (hB : Below w0.heap.size w0 w) (hD : Apart os) (hx : Od Γ x (isV k)) (hmk : mk k ([] : List α) = some xs) (hd : Nat.blt d n = true)
    (K : ∀ a' w' v, Below w.heap.size w w' → Below w0.heap.size w0 w' → At n (pf F0 (os ++ [ob v])) ((d, Pr.is v) :: Γ) a' w' → Apart (os ++ [ob v]) → OwnT RT E w0.heap.size (vw (pf F0 (os ++ [ob v])) w') w' v (ob v) (List.replicate xs.length (.slice none 0 0)) xs → (∀ b, ob v b = true → w.heap.size ≤ b) →
      Mem.le (vw (pf F0 os) w) (vw (pf F0 (os ++ [ob v])) w') → wpList P ops Q r a' w') :
    wpList P ops Q (⟨some d, .makeSlice T x x, t, ps, af, none⟩ :: r) a w := by
  have hm : ∀ xs, Met Γ xs (v2 (pf F0 os) w) a := hA.met
  have hxv : a.eval x = .int .i64 k := hx.get (hm [x]) (by simp)
  obtain ⟨h0, hn, rfl⟩ := mk_some hmk
  obtain ⟨i, z, hi, hzz, hsz, hzs, hps, hby⟩ := hz.out
  have hze : z = .slice none 0 0 := by rw [hi] at hzv; simp only [Option.map_some, Option.some.injEq] at hzv; rw [hzz] at hzv; exact Option.some.inj hzv
  obtain ⟨q, rfl⟩ := Int.eq_ofNat_of_zero_le h0
  have hq : (Int.ofNat q).toNat = q := rfl
  have hkl : q ≤ 4294967296 := by omega
  have hs1 : i.size = 1 := hsz
  obtain ⟨w', hr, hown, hg⟩ := run_make_full (P := P) w w0.heap.size T RT i z 1 hT.desc hi hzz hs1 .i64 .i64 q (by
    have : i.bytes * q ≤ 16384 * 4294967296 := Nat.mul_le_mul hby hkl
    omega) (by unfold maxLen; omega) hB.size
  have hlt := (hown.lt w.heap.size rfl).2
  have hbw : Below w.heap.size w w' := ⟨hg.os, hg.tape, hg.output, hg.size, fun p hp => hg.block p hp (by simp), dn_le (make_drawn hT.desc hi hzz (by
    have : i.bytes * q ≤ 16384 * 4294967296 := Nat.mul_le_mul hby hkl
    omega) (by unfold maxLen; omega) hr)⟩
  have hr1 : (execOp a.eval ⟨some d, .makeSlice T x x, t, ps, af, none⟩).run P w = .ok (.value (.slice (some ⟨w.heap.size, 0, none⟩) q q)) w' := by
    simp [execOp, hxv, hr]
  unfold wpList
  simp only [Region.wanted, if_true]
  refine .inl (wp_of_ex ?_)
  unfold Ex
  rw [hr1]
  have ho : ∀ b, ob (.slice (some ⟨w.heap.size, 0, none⟩) q q) b = true → w.heap.size ≤ b ∧ b < w'.heap.size := fun b hb => by
    have := ob_iff.1 hb; cases this; exact ⟨Nat.le_refl _, hlt⟩
  rw [Nat.mul_one, hze] at hown
  have hmc : (madeCells (Value.cells (.slice none 0 0)) q).toList = List.replicate q (.slice none 0 0) := toList_madeCells_one _ q
  rw [hmc] at hown
  refine K _ _ _ hbw (below_trans' hB hbw) ((at_push hA hbw ho).put (by simpa [Nat.blt_eq] using hd) rfl) (apart_push hD hA.own fun b hb => (ho b hb).1)
    ⟨⟨by rw [List.length_replicate]; exact hown, fun i u r hu hr => ?_, fun i j u u' b hu hu' hb _ => ?_, fun i u b hu hb => ?_, fun b hb => ob_iff.2 hb, fun i u b hu hb => ?_⟩, fun b hb => ⟨Nat.le_trans hB.size (ho b hb).1, (ho b hb).2⟩⟩ (fun b hb => (ho b hb).1) (vw_push hbw fun b hb => (ho b hb).1)
  · have hu' := List.mem_of_getElem? hu
    have hr' := List.mem_of_getElem? hr
    rw [List.mem_replicate] at hu' hr'
    rw [hu'.2, hr'.2]
    exact ⟨[], World.ownsRow_nil _ _ _ _, rfl⟩
  · have := (List.mem_replicate.1 (List.mem_of_getElem? hu)).2
    rw [this] at hb; simp [Value.ownBlock] at hb
  · have := (List.mem_replicate.1 (List.mem_of_getElem? hu)).2
    rw [this] at hb; simp [Value.ownBlock] at hb
  · have := (List.mem_replicate.1 (List.mem_of_getElem? hu)).2
    rw [this] at hb; simp [Value.ownBlock] at hb
end
end Go.Proofs.YtjlagmcdoobimaaGreatDoor.Wh

namespace Go.Proofs.YtjlagmcdoobimaaGreatDoor.Wh
open Go Go.RowKit

/-! ### elements of an own slice -/
def isOS {α : Type} [Enc α] (v : Value) (xs : List α) : Pr := ⟨fun c u => u = v ∧ RowM c v xs, fun hc h => ⟨h.1, h.2.mono hc⟩⟩
/-- the place of element j of an own slice -/
def isEP (α : Type) [Enc α] (v : Value) (j : Nat) : Pr := ⟨fun _ u => ∃ b n cap, v = .slice (some ⟨b, 0, none⟩) n cap ∧ u = .pointer (some ⟨b, j * Enc.size α, none⟩), fun _ h => h⟩
def isEA {α : Type} [Enc α] (v : Value) (j : Nat) (y : α) : Pr :=
  ⟨fun c u => ∃ b n cap vs, v = .slice (some ⟨b, 0, none⟩) n cap ∧ u = .pointer (some ⟨b, j * Enc.size α, none⟩) ∧ Enc.rep c.c vs y ∧ ∀ q x, vs[q]? = some x → c.m ⟨b, j * Enc.size α + q, none⟩ = some x,
   fun hc h => by obtain ⟨b, n, cap, vs, h1, h2, h3, h4⟩ := h; exact ⟨b, n, cap, vs, h1, h2, Enc.mono hc.1 h3, fun q x e => hc.2 _ _ (h4 q x e)⟩⟩
theorem odEP {α : Type} [Enc α] {Γ : List (Nat × Pr)} {t j : Nat} {v : Value} {y : α} (h : lk Γ t = some (isEA v j y)) : Od Γ (.tmp t) (isEP α v j) :=
  ⟨_, h, fun _ _ k => by obtain ⟨b, n, cap, vs, h1, h2, _⟩ := k; exact ⟨b, n, cap, h1, h2⟩⟩
theorem odOS {α : Type} [Enc α] {Γ : List (Nat × Pr)} {t : Nat} {v : Value} {xs : List α} (h : lk Γ t = some (isOS v xs)) : Od Γ (.tmp t) (Pr.is v) := ⟨_, h, fun _ _ k => k.1⟩
section
variable {P : Program} {Γ : List (Nat × Pr)} {ty : TypeId}
theorem at_os {α : Type} [Enc α] {E B n t : Nat} {F : Nat → Bool} {a : Act} {w : World} {v : Value} {xs : List α} (hO : Own E B (vw F w) w v xs) (h : At n F Γ a w) (e : lk Γ t = some (Pr.is v)) : At n F ((t, isOS v xs) :: Γ) a w := by
  refine ⟨h.size, h.defers, h.own, fun s φ hs => ?_⟩
  unfold lk at hs
  cases hb : Nat.beq t s with
  | true =>
    rw [hb] at hs
    simp only [cond_true, Option.some.injEq] at hs
    have := Nat.eq_of_beq_eq_true hb
    subst hs; subst this
    obtain ⟨cells, h1, h2⟩ := hO.row
    exact ⟨h.sat t _ e, own_rowM h1 h2⟩
  | false => rw [hb] at hs; exact h.sat s φ hs
theorem sp_lenOS {α : Type} [Enc α] {x : Operand} {T E : TypeId} {v : Value} {xs : List α} (hT : P.underlying T = some (.slice E)) (hx : Od Γ x (isOS v xs)) : StepP P (.call { callee := .builtin .len, args := #[x], argTypes := #[T] }) ty Γ (isV (xs.length : Int)) :=
  step_pure fun c w a hc hm => by
    obtain ⟨h1, h2⟩ := hx.get hm (by simp [Op.operands, Call.operands])
    obtain ⟨a', cap, hv⟩ : ∃ a' cap, v = .slice a' xs.length cap := by
      rcases h2 with ⟨hu, rfl⟩ | ⟨b, cap', _, hu, _⟩
      · exact ⟨none, 0, hu⟩
      · exact ⟨_, cap', hu⟩
    refine ⟨.int .i64 xs.length, ?_, rfl⟩
    simp [execOp, plain, resolve, invoke, builtin, Builtin.len_, h1, hv, run_underlying hT, goInt]
theorem sp_indexAddrOS {α : Type} [Enc α] {x k : Operand} {T E : TypeId} {v : Value} {xs : List α} {j : Int} {y : α} (hT : SlP P T E α) (hx : Od Γ x (isOS v xs)) (hk : Od Γ k (isV j)) (h : idx xs j = some y) : StepP P (.indexAddr T x k) ty Γ (isEA v j.toNat y) :=
  step_pure fun c w a hc hm => by
    have hkv := get_int hk hm (by simp [Op.operands])
    obtain ⟨h1, h3⟩ := hx.get hm (by simp [Op.operands])
    obtain ⟨h0, hlt, he⟩ := idx_some h
    rcases h3 with ⟨_, rfl⟩ | ⟨b, cap', cells, hu, hl, hmm⟩
    · simp at hlt
    · obtain ⟨vs, hr, hv⟩ := hl.get j.toNat hlt
      refine ⟨.pointer (some ⟨b, j.toNat * Enc.size α, none⟩), ?_, b, _, cap', vs, hu, rfl, by rw [← he]; exact hr, fun q z e => hmm _ _ (hv q z e)⟩
      have hi : 0 ≤ j ∧ j < (xs.length : Int) := ⟨h0, by omega⟩
      simp [execOp, plain, hkv, h1, hu, Instr.indexAt, asIntOf, run_underlying hT.desc, hi, hT.elem.sizeOf w, Addr.add_lit]
theorem sp_loadEA {α : Type} [Enc α] {x : Operand} {E : TypeId} {v : Value} {j : Nat} {y : α} (hT : TyP P E α) (hx : Od Γ x (isEA v j y)) : StepP P (.load E x) ty Γ (isV y) :=
  step_pure fun c w a hc hm => by
    obtain ⟨b, n, cap, vs, h1, h3, h4, h5⟩ := hx.get hm (by simp [Op.operands])
    obtain ⟨u, hrun, hval⟩ := run_load_cells (P := P) hT h4 (fun q z e => hc.2 _ _ (h5 q z e))
    exact ⟨u, by simp [execOp, plain, h3, Instr.loadAt, Instr.sureAddr, hrun], hval⟩
theorem set1_some {α : Type} {r r' : List α} {j : Int} {z : α} (h : set1 r j z = some r') : 0 ≤ j ∧ j.toNat < r.length ∧ r' = r.set j.toNat z := by
  unfold set1 at h
  split at h
  · cases h
  · split at h
    · rename_i h0 h1; cases h; exact ⟨by omega, h1, rfl⟩
    · cases h
/-- The row of an own slice, one element set. -/
theorem own_set_row {α : Type} [Enc α] {E B : Nat} {c c' : Mem} {w : World} {b n' cap' : Nat} {xs : List α} {vs : List Value} {z : α} {j : Nat} (hO : Own E B c w (.slice (some ⟨b, 0, none⟩) n' cap') xs) (hc : Mem.le c c') (hz : Enc.rep c' vs z) (hj : j < xs.length)
    {new : List Value} (hnew : ∀ cur, w.heap[b]? = some (.cells cur E (0, 0)) → new = cur.toList.take (j * Enc.size α) ++ vs ++ cur.toList.drop (j * Enc.size α + vs.length)) : Own E B c' (w.setRow b new.toArray) (.slice (some ⟨b, 0, none⟩) n' cap') (xs.set j z) := by
  obtain ⟨cells, hr, hl⟩ := hO.row
  rcases hr.2 with ⟨hn, _⟩ | ⟨b', cap, cur, hub, hBb, hheap, hlc, hcm, hcs, htake⟩
  · cases hn
  cases hub
  have hnew' := hnew cur hheap
  have hlen : vs.length = Enc.size α := Enc.len hz
  have hjm : (j + 1) * Enc.size α ≤ xs.length * Enc.size α := Nat.mul_le_mul_right _ (by omega)
  rw [Nat.add_mul] at hjm
  have hlc' : xs.length * Enc.size α ≤ cap' * Enc.size α := Nat.mul_le_mul_right _ hlc
  have hcl : cur.toList.length = cap' * Enc.size α := by simpa using hcs
  refine ⟨cells.take (j * Enc.size α) ++ vs ++ cells.drop (j * Enc.size α + vs.length), ⟨?_, .inr ⟨b, cap', new.toArray, by rw [List.length_set], hBb, setRow_heap w b cur _ E _ hheap, by rw [List.length_set]; exact hlc, hcm, ?_, ?_⟩⟩, RepL.set j (hl.mono hc) hz hj⟩
  · exact RepL.len (RepL.set j (hl.mono hc) hz hj)
  · rw [hnew']
    simp only [List.size_toArray, List.length_append, List.length_take, List.length_drop, hcl]
    omega
  · rw [hnew', List.length_set, ← htake]
    apply List.ext_getElem?
    intro q
    simp only [List.getElem?_take, List.getElem?_append, List.length_take, List.length_append, List.getElem?_drop, hcl]
    have e1 : min (j * Enc.size α) (cap' * Enc.size α) = j * Enc.size α := by omega
    have e2 : min (j * Enc.size α) (min (xs.length * Enc.size α) (cap' * Enc.size α)) = j * Enc.size α := by omega
    rw [e1, e2]
    by_cases q1 : q < xs.length * Enc.size α
    · rw [if_pos q1]
      by_cases q2 : q < j * Enc.size α
      · simp only [show q < j * Enc.size α + vs.length by omega, q2, q1, if_true]
      · by_cases q3 : q < j * Enc.size α + vs.length
        · simp only [q3, q2, if_true, if_false]
        · simp only [q3, if_false]
          have e3 : j * Enc.size α + vs.length + (q - (j * Enc.size α + vs.length)) = q := by omega
          rw [e3]
          simp only [q1, if_true]
    · rw [if_neg q1]
      symm
      simp only [show ¬ q < j * Enc.size α + vs.length by omega, if_false]
      rw [if_neg (by omega)]
/-- 'x[j] = z' on an own slice. -/
theorem l_storeEA {ops : Array Oper} {n k p : Nat} {j : Int} {E : TypeId} {y : Operand} {α : Type} [Enc α] {z : α} {xs xs' : List α} {v : Value} {t : TypeId} {ps : String} {af : Array Edge} {r : List Oper} {F0 : Nat → Bool} {os : List (Nat → Bool)} {a : Act} {w w0 : World} {Q : Exit → Act → World → Prop}
    (hT : TyP P E α) (hk : os[k]? = some (ob v)) (hA : At n (pf F0 os) Γ a w) (hB : Below w0.heap.size w0 w) (hO : Own E w0.heap.size (vw (pf F0 os) w) w v xs) (hp : Od Γ (.tmp p) (isEP α v j.toNat)) (hy : Od Γ y (isV z)) (hset : set1 xs j z = some xs')
    {Δ : List (Nat × Pr)} (hl : AllOd Γ Δ) (hC : AllC Δ)
    (K : ∀ w', Below w0.heap.size w0 w' → At n (pf F0 os) Δ a w' → Own E w0.heap.size (vw (pf F0 os) w') w' v xs' → (∀ q, q < w.heap.size → ob v q = false → w'.heap[q]? = w.heap[q]?) → w.heap.size ≤ w'.heap.size → Mem.le (vw (pf F0 os) w) (vw (pf F0 os) w') → wpList P ops Q r a w') :
    wpList P ops Q (⟨none, .store E (.tmp p) y, t, ps, af, none⟩ :: r) a w := by
  have hm : ∀ xs, Met Γ xs (v2 (pf F0 os) w) a := hA.met
  have hyv : val (vw (pf F0 os) w) (a.eval y) z := hy.get (hm [y]) (by simp)
  obtain ⟨b, n', cap', rfl, hpv⟩ := hp.get (hm [.tmp p]) (by simp)
  have hpv : a.eval (.tmp p) = .pointer (some ⟨b, j.toNat * Enc.size α, none⟩) := hpv
  obtain ⟨hj0, hjlt, rfl⟩ := set1_some hset
  obtain ⟨cells, h1, h2⟩ := hO.row
  rcases h1.2 with ⟨hn, _⟩ | ⟨b', cap, cur, hub, hBb, hheap, hlc, hcm, hcs, htake⟩
  · cases hn
  cases hub
  have hcells := val_cells hyv
  have hlen := Enc.len hcells
  have hone := Enc.cell hcells
  obtain ⟨inf, hinf, hsz⟩ := hT.info
  have hpos : (j.toNat + 1) * Enc.size α ≤ cap' * Enc.size α := Nat.mul_le_mul_right _ (by omega)
  have hfit : j.toNat * Enc.size α + 0 + (a.eval y).cells.toList.length ≤ cur.size := by rw [hlen, hcs]; rw [Nat.add_mul] at hpos; omega
  have hst := run_storeCells_at P b (j.toNat * Enc.size α) E (a.eval y).cells.toList 0 cur w hheap hfit hone
  have hcs2 : (a.eval y).cells.size = inf.size := by rw [hsz, ← hlen]; simp
  have hr : (execOp a.eval ⟨none, .store E (.tmp p) y, t, ps, af, none⟩).run P w = .ok .skip (w.setRow b (cur.toList.take (j.toNat * Enc.size α) ++ (a.eval y).cells.toList ++ cur.toList.drop (j.toNat * Enc.size α + (a.eval y).cells.toList.length)).toArray) := by
    simp only [Nat.add_zero] at hst
    simp only [execOp, hpv, Instr.storeAt, Instr.sureAddr, storeVar, Go.sizeOf, typeInfo, Sem.run_bind, run_program, Result.andThen_ok, hinf, Sem.run_pure]
    simp [hcs2, hst]
  unfold wpList
  simp only [Region.wanted, if_true]
  refine .inl (wp_of_ex ?_)
  unfold Ex
  rw [hr]
  generalize hnew : cur.toList.take (j.toNat * Enc.size α) ++ (a.eval y).cells.toList ++ cur.toList.drop (j.toNat * Enc.size α + (a.eval y).cells.toList.length) = new
  have hblk : ∀ q, q ≠ b → (w.setRow b new.toArray).heap[q]? = w.heap[q]? := fun q hq => setRow_other _ _ _ _ hq
  have hblk' : ∀ q, q < w.heap.size → ob (.slice (some ⟨b, 0, none⟩) xs.length cap') q = false → (w.setRow b new.toArray).heap[q]? = w.heap[q]? := fun q _ hq => hblk q (fun e => by subst e; simp [ob, Value.ownBlock] at hq)
  have hle : Mem.le (vw (pf F0 os) w) (vw (pf F0 os) (w.setRow b new.toArray)) := by
    have := vw_turn (F0 := F0) hk hblk' (o' := ob (.slice (some ⟨b, 0, none⟩) xs.length cap')) (fun q hq => .inl hq)
    rwa [set_self hk] at this
  have hsize : (w.setRow b new.toArray).heap.size = w.heap.size := by simp
  refine K _ (hB.trans ⟨rfl, rfl, rfl, by rw [hsize]; exact Nat.le_refl _, fun q hq => hblk q (fun e => by omega), Nat.le_refl _⟩) ((hA.weak hl).turn hC hle fun q hq => by rw [hsize]; exact hA.own q hq) ?_ hblk' (by rw [hsize]; exact Nat.le_refl _) hle
  refine own_set_row hO hle (Enc.mono hle hcells) hjlt (fun cur' hc' => ?_)
  rw [hheap] at hc'
  cases hc'
  exact hnew.symm

/-! ### a row put into a table -/
theorem merge_pf {F0 : Nat → Bool} {os : List (Nat → Bool)} {k k2 b : Nat} {o u o' : Nat → Bool} (hk : os[k]? = some o) (hk2 : os[k2]? = some u) (ho : ∀ b, o' b = true → o b = true ∨ u b = true) (h : pf F0 ((os.set k o').eraseIdx k2) b = true) : pf F0 os b = true := by
  rcases pf_iff.1 (pf_erase h) with h | ⟨i, x, hi, hx⟩
  · exact pf_iff.2 (.inl h)
  · rw [List.getElem?_set] at hi
    split at hi
    · split at hi
      · cases hi
        rcases ho b hx with h1 | h1
        · exact pf_iff.2 (.inr ⟨k, o, hk, h1⟩)
        · exact pf_iff.2 (.inr ⟨k2, u, hk2, h1⟩)
      · cases hi
    · exact pf_iff.2 (.inr ⟨i, x, hi, hx⟩)
theorem merge_apart {os : List (Nat → Bool)} {k k2 : Nat} {o u o' : Nat → Bool} (hD : Apart os) (hk : os[k]? = some o) (hk2 : os[k2]? = some u) (hne : Nat.beq k k2 = false) (ho : ∀ b, o' b = true → o b = true ∨ u b = true) : Apart ((os.set k o').eraseIdx k2) := by
  have hne' : k ≠ k2 := fun e => by subst e; simp at hne
  -- each kept owner, by its old place
  have hold : ∀ (i : Nat) (x : Nat → Bool), ((os.set k o').eraseIdx k2)[i]? = some x → ∃ i', i' ≠ k2 ∧ i' = (if i < k2 then i else i + 1) ∧ ((i' = k ∧ x = o') ∨ (i' ≠ k ∧ os[i']? = some x)) := by
    intro i x hx
    rw [List.getElem?_eraseIdx] at hx
    have fin : ∀ i', (os.set k o')[i']? = some x → (i' = k ∧ x = o') ∨ (i' ≠ k ∧ os[i']? = some x) := by
      intro i' hx'
      rw [List.getElem?_set] at hx'
      split at hx'
      · rename_i e
        split at hx'
        · cases hx'; exact .inl ⟨e.symm, rfl⟩
        · cases hx'
      · rename_i e; exact .inr ⟨fun e' => e e'.symm, hx'⟩
    by_cases hik : i < k2
    · rw [if_pos hik] at hx
      exact ⟨i, by omega, by rw [if_pos hik], fin i hx⟩
    · rw [if_neg hik] at hx
      exact ⟨i + 1, by omega, by rw [if_neg hik], fin (i + 1) hx⟩
  intro i j x y hi hj hij b hb
  obtain ⟨i', hi2, hie, hi3⟩ := hold i x hi
  obtain ⟨j', hj2, hje, hj3⟩ := hold j y hj
  have hij' : i' ≠ j' := by rw [hie, hje]; split <;> split <;> omega
  rcases hi3 with ⟨e1, rfl⟩ | ⟨e1, hx⟩
  · rcases hj3 with ⟨e2, _⟩ | ⟨e2, hy⟩
    · omega
    · rcases ho b hb with h1 | h1
      · exact hD k j' o y hk hy (fun e => e2 e.symm) b h1
      · exact hD k2 j' u y hk2 hy (fun e => hj2 e.symm) b h1
  · rcases hj3 with ⟨e2, rfl⟩ | ⟨e2, hy⟩
    · cases hq : y b with
      | false => rfl
      | true =>
        rcases ho b hq with h1 | h1
        · have := hD i' k x o hx hk e1 b hb
          rw [h1] at this; cases this
        · have := hD i' k2 x u hx hk2 hi2 b hb
          rw [h1] at this; cases this
    · exact hD i' j' x y hx hy hij' b hb
/-- A table whose row i is elsewhere. -/
structure OwnH {α : Type} [Enc α] (RT E : TypeId) (B : Nat) (c : Mem) (w : World) (v : Value) (o : Nat → Bool) (i : Nat) (rs : List Value) (rows : List (List α)) : Prop where
  out : w.ownsRow B RT 1 v rows.length rs ∧
    (∀ (j : Nat) (u : Value) (r : List α), j ≠ i → rs[j]? = some u → rows[j]? = some r → ∃ cells, w.ownsRow B E (Enc.size α) u r.length cells ∧ RepL c cells r) ∧
    (∀ (j k : Nat) (u u' : Value) (b : Nat), j ≠ i → k ≠ i → rs[j]? = some u → rs[k]? = some u' → u.ownBlock = some b → u'.ownBlock = some b → j = k) ∧
    (∀ (j : Nat) (u : Value) (b : Nat), j ≠ i → rs[j]? = some u → u.ownBlock = some b → v.ownBlock ≠ some b) ∧
    (∀ b, v.ownBlock = some b → o b = true) ∧ (∀ (j : Nat) (u : Value) (b : Nat), j ≠ i → rs[j]? = some u → u.ownBlock = some b → o b = true)
  lt : ∀ b, o b = true → B ≤ b ∧ b < w.heap.size
theorem ownH_kept {α : Type} [Enc α] {RT E : TypeId} {B i : Nat} {c c' : Mem} {w w' : World} {v : Value} {o : Nat → Bool} {rs : List Value} {rows : List (List α)} (h : OwnH RT E B c w v o i rs rows) (hc : Mem.le c c') (hs : w.heap.size ≤ w'.heap.size)
    (hb : ∀ k, o k = true → w'.heap[k]? = w.heap[k]?) : OwnH RT E B c' w' v o i rs rows := by
  obtain ⟨h1, h2, h3, h4, h5, h6⟩ := h.out
  refine ⟨⟨ownsRow_kept h1 (fun k hk => hb k (h5 k hk)), fun j u r hj hu hr => ?_, h3, h4, h5, h6⟩, fun b hb' => ⟨(h.lt b hb').1, Nat.lt_of_lt_of_le (h.lt b hb').2 hs⟩⟩
  obtain ⟨cells, hc1, hc2⟩ := h2 j u r hj hu hr
  exact ⟨cells, ownsRow_kept hc1 (fun k hk => hb k (h6 j u k hj hu hk)), hc2.mono hc⟩
theorem ownH_of {α : Type} [Enc α] {RT E : TypeId} {B : Nat} {c : Mem} {w : World} {v : Value} {o : Nat → Bool} {rs : List Value} {rows : List (List α)} (i : Nat) (h : OwnT RT E B c w v o rs rows) : OwnH RT E B c w v o i rs rows := by
  obtain ⟨h1, h2, h3, h4, h5, h6⟩ := h.out
  exact ⟨⟨h1, fun j u r _ => h2 j u r, fun j k u u' b _ _ => h3 j k u u' b, fun j u b _ => h4 j u b, h5, fun j u b _ => h6 j u b⟩, h.lt⟩
/-- .. taken out. -/
theorem ownH_take {α : Type} [Enc α] {RT E : TypeId} {B i : Nat} {c : Mem} {w : World} {v u : Value} {o : Nat → Bool} {rs : List Value} {rows : List (List α)} {r : List α} (h : OwnT RT E B c w v o rs rows) (hu : rs[i]? = some u) (hr : rows[i]? = some r) :
    OwnH RT E B c w v (fun b => o b && !ob u b) i rs rows ∧ Own E B c w u r := by
  obtain ⟨h1, h2, h3, h4, h5, h6⟩ := h.out
  refine ⟨⟨⟨h1, fun j u r _ => h2 j u r, fun j k u u' b _ _ => h3 j k u u' b, fun j u b _ => h4 j u b, fun b hb => ?_, fun j u' b hj hu' hb => ?_⟩, fun b hb => h.lt b (by simp at hb; exact hb.1)⟩, ⟨h2 i u r hu hr⟩⟩
  · have hn : ob u b = false := by
      cases hq : ob u b with
      | false => rfl
      | true => exact absurd hb (h4 i u b hu (ob_iff.1 hq))
    simp [h5 b hb, hn]
  · have hn : ob u b = false := by
      cases hq : ob u b with
      | false => rfl
      | true => exact absurd (h3 j i u' u b hu' hu hb (ob_iff.1 hq)) hj
    simp [h6 j u' b hu' hb, hn]
/-- 't[i] = r' for an own slice r: it is the table's then. -/
theorem l_storeTR {ops : Array Oper} {n k k2 p : Nat} {i : Int} {RT E : TypeId} {y : Operand} {α : Type} [Enc α] {z : List α} {rs : List Value} {rows rows' : List (List α)} {v u : Value} {o : Nat → Bool} {t : TypeId} {ps : String} {af : Array Edge} {r : List Oper} {F0 : Nat → Bool} {os : List (Nat → Bool)} {a : Act} {w w0 : World} {Q : Exit → Act → World → Prop}
    (hT : P.underlying RT = some (.slice E)) (hR : (P.info? RT).map (·.size) = some 1) (hk : os[k]? = some o) (hk2 : os[k2]? = some (ob u)) (hne : Nat.beq k k2 = false) (hA : At n (pf F0 os) Γ a w) (hB : Below w0.heap.size w0 w) (hD : Apart os)
    (hO : OwnH RT E w0.heap.size (vw (pf F0 os) w) w v o i.toNat rs rows) (hO2 : Own E w0.heap.size (vw (pf F0 os) w) w u z) (hp : Od Γ (.tmp p) (isTP v i.toNat)) (hy : Od Γ y (Pr.is u)) (hset : set1 rows i z = some rows')
    {Δ : List (Nat × Pr)} (hl : AllOd Γ Δ) (hC : AllC Δ)
    (K : ∀ w' o', (∀ b, o' b = true → o b = true ∨ ob u b = true) → Below w0.heap.size w0 w' → At n (pf F0 ((os.set k o').eraseIdx k2)) Δ a w' → Apart ((os.set k o').eraseIdx k2) → OwnT RT E w0.heap.size (vw (pf F0 ((os.set k o').eraseIdx k2)) w') w' v o' (rs.set i.toNat u) rows' → (∀ q, q < w.heap.size → o q = false → w'.heap[q]? = w.heap[q]?) → w.heap.size ≤ w'.heap.size →
      Mem.le (vw (pf F0 os) w) (vw (pf F0 ((os.set k o').eraseIdx k2)) w') → wpList P ops Q r a w') :
    wpList P ops Q (⟨none, .store RT (.tmp p) y, t, ps, af, none⟩ :: r) a w := by
  have hm : ∀ xs, Met Γ xs (v2 (pf F0 os) w) a := hA.met
  have hyv : a.eval y = u := hy.get (hm [y]) (by simp)
  obtain ⟨g, n', cap, hv, hpv⟩ := hp.get (hm [.tmp p]) (by simp)
  have hpv : a.eval (.tmp p) = .pointer (some ⟨g, i.toNat, none⟩) := hpv
  obtain ⟨hi0, hilt, rfl⟩ := set1_some hset
  obtain ⟨h1, h2, h3, h4, h5, h6⟩ := hO.out
  have hrl : rs.length = rows.length := by rw [h1.1, Nat.mul_one]
  rcases h1.2 with ⟨hn, _⟩ | ⟨g', cap', cur, hub, hBb, hheap, hlc, hcm, hcs, htake⟩
  · rw [hv] at hn; cases hn
  have hgg : g' = g := by rw [hv] at hub; cases hub; rfl
  subst hgg
  have hgo : o g' = true := h5 g' (by rw [hv]; rfl)
  have hu1 : u.oneCell' = true := by
    obtain ⟨cells, hr, _⟩ := hO2.row
    rcases hr.2 with ⟨rfl, _⟩ | ⟨_, _, _, rfl, _⟩ <;> rfl
  have huc : u.cells = #[u] := by cases u <;> first | rfl | cases hu1
  cases hin : P.info? RT with
  | none => rw [hin] at hR; cases hR
  | some inf =>
  rw [hin] at hR
  have hs1 : inf.size = 1 := by simpa using hR
  rw [Nat.mul_one] at hcs htake
  have hst := run_storeCells_at P g' i.toNat RT [u] 0 cur w hheap (by simp; omega) (by intro q hq; simp at hq; subst hq; exact hu1)
  have hr : (execOp a.eval ⟨none, .store RT (.tmp p) y, t, ps, af, none⟩).run P w = .ok .skip (w.setRow g' (cur.toList.take i.toNat ++ [u] ++ cur.toList.drop (i.toNat + 1)).toArray) := by
    simp only [Nat.add_zero, List.length_singleton] at hst
    simp only [execOp, hpv, hyv, Instr.storeAt, Instr.sureAddr, storeVar, Go.sizeOf, typeInfo, Sem.run_bind, run_program, Result.andThen_ok, hin, Sem.run_pure]
    simp only [huc, hs1]
    simp
    simp at hst
    rw [hst]
    rfl
  generalize hnew : cur.toList.take i.toNat ++ [u] ++ cur.toList.drop (i.toNat + 1) = new at hr
  unfold wpList
  simp only [Region.wanted, if_true]
  refine .inl (wp_of_ex ?_)
  unfold Ex
  rw [hr]
  have hblk : ∀ q, q ≠ g' → (w.setRow g' new.toArray).heap[q]? = w.heap[q]? := fun q hq => setRow_other _ _ _ _ hq
  have hblk' : ∀ q, q < w.heap.size → o q = false → (w.setRow g' new.toArray).heap[q]? = w.heap[q]? := fun q _ hq => hblk q (fun e => by subst e; rw [hgo] at hq; cases hq)
  have hsize : (w.setRow g' new.toArray).heap.size = w.heap.size := by simp
  have ho' : ∀ b, (fun b => o b || ob u b) b = true → o b = true ∨ ob u b = true := fun b hb => by simpa using hb
  have hle : Mem.le (vw (pf F0 os) w) (vw (pf F0 ((os.set k fun b => o b || ob u b).eraseIdx k2)) (w.setRow g' new.toArray)) := by
    intro c q e
    unfold vw at e ⊢
    split at e
    · cases e
    · rename_i hf
      rw [if_neg (fun hh => hf (merge_pf hk hk2 ho' hh)), World.cell?_of_block (hblk c.block (fun e' => hf (pf_iff.2 (.inr ⟨k, o, hk, by rw [e']; exact hgo⟩))))]
      exact e
  have hgu : ∀ b, ob u b = true → b ≠ g' := fun b hb e => by
    have := hD k2 k _ o hk2 hk (fun e => by subst e; simp at hne) b hb
    rw [e, hgo] at this; cases this
  have hnl : new.length = cap' := by
    rw [← hnew]; simp only [List.length_append, List.length_take, List.length_drop, Array.length_toList, List.length_singleton]; omega
  have hrs' : new.take rows.length = rs.set i.toNat u := by
    rw [← hnew, ← htake]
    apply List.ext_getElem?
    intro q
    simp only [List.getElem?_take, List.getElem?_append, List.length_take, List.length_append, List.getElem?_drop, Array.length_toList, hcs, List.length_singleton, List.getElem?_set]
    have e1 : min i.toNat cap' = i.toNat := by omega
    have e2 : min rows.length cap' = rows.length := by omega
    rw [e1, e2]
    have e3 : min i.toNat (min rows.length cap') = i.toNat := by omega
    try rw [e3]
    by_cases q1 : q < rows.length
    · simp only [q1, if_true]
      by_cases q2 : q < i.toNat
      · have q3 : ¬ i.toNat = q := by omega
        have q4 : q < i.toNat + 1 := by omega
        simp only [q2, q3, q4, if_true, if_false]
      · by_cases q3 : i.toNat = q
        · subst q3
          have q4 : i.toNat < min rows.length cur.size := by omega
          simp [hilt]
        · have q4 : ¬ q < i.toNat + 1 := by omega
          have q5 : i.toNat + 1 + (q - (i.toNat + 1)) = q := by omega
          simp only [q3, q4, q5, if_false]
    · have q3 : ¬ i.toNat = q := by omega
      simp only [q1, q3, if_false]
  refine K _ (fun b => o b || ob u b) ho' (hB.trans ⟨rfl, rfl, rfl, by rw [hsize]; exact Nat.le_refl _, fun q hq => hblk q (fun e => by omega), Nat.le_refl _⟩) ((hA.weak hl).turn hC hle fun q hq => by rw [hsize]; exact hA.own q (merge_pf hk hk2 ho' hq)) (merge_apart hD hk hk2 hne ho') ?_ hblk' (by rw [hsize]; exact Nat.le_refl _) hle
  have hout : ∀ b, ob u b = true → o b = false := fun b hb => hD k2 k _ o hk2 hk (fun e => by subst e; simp at hne) b hb
  refine ⟨⟨?_, fun i' q r2 hq hr2 => ?_, fun i' j' q q' b hq hq' hb hb' => ?_, fun i' q b hq hb => ?_, fun b hb => by simp [h5 b hb], fun i' q b hq hb => ?_⟩, fun b hb => ?_⟩
  · rw [List.length_set]
    refine ⟨by rw [List.length_set, hrl, Nat.mul_one], .inr ⟨g', cap', new.toArray, hub, hBb, setRow_heap w g' cur _ RT _ hheap, hlc, hcm, by simp [hnl], ?_⟩⟩
    rw [Nat.mul_one]; simpa using hrs'
  · rw [List.getElem?_set] at hq hr2
    by_cases hii : i.toNat = i'
    · subst hii
      rw [if_pos rfl, if_pos (by omega)] at hq
      rw [if_pos rfl, if_pos hilt] at hr2
      cases hq; cases hr2
      obtain ⟨cells, hc1, hc2⟩ := hO2.row
      exact ⟨cells, ownsRow_kept hc1 (fun b hb => hblk b (hgu b (ob_iff.2 hb))), hc2.mono hle⟩
    · rw [if_neg hii] at hq hr2
      obtain ⟨cells, hc1, hc2⟩ := h2 i' q r2 (fun e => hii e.symm) hq hr2
      exact ⟨cells, ownsRow_kept hc1 (fun b hb => hblk b (fun e => by subst e; exact h4 _ _ b (fun e => hii e.symm) hq hb (by rw [hv]; rfl))), hc2.mono hle⟩
  · rw [List.getElem?_set] at hq hq'
    by_cases hi' : i.toNat = i'
    · by_cases hj' : i.toNat = j'
      · omega
      · rw [if_pos hi', if_pos (by omega)] at hq
        rw [if_neg hj'] at hq'
        cases hq
        have := hout b (ob_iff.2 hb)
        rw [h6 _ _ b (fun e => hj' e.symm) hq' hb'] at this; cases this
    · rw [if_neg hi'] at hq
      by_cases hj' : i.toNat = j'
      · rw [if_pos hj', if_pos (by omega)] at hq'
        cases hq'
        have := hout b (ob_iff.2 hb')
        rw [h6 _ _ b (fun e => hi' e.symm) hq hb] at this; cases this
      · rw [if_neg hj'] at hq'
        exact h3 i' j' q q' b (fun e => hi' e.symm) (fun e => hj' e.symm) hq hq' hb hb'
  · rw [List.getElem?_set] at hq
    split at hq
    · split at hq
      · cases hq; rw [hv]; intro e; simp [Value.ownBlock] at e; exact hgu b (ob_iff.2 hb) e.symm
      · cases hq
    · rename_i e; exact h4 i' q b (fun e' => e e'.symm) hq hb
  · rw [List.getElem?_set] at hq
    split at hq
    · split at hq
      · cases hq; simp [ob_iff.2 hb]
      · cases hq
    · rename_i e; simp [h6 i' q b (fun e' => e e'.symm) hq hb]
  · rw [hsize]
    rcases ho' b hb with hb | hb
    · exact hO.lt b hb
    · exact own_lt hO2 hb
end
end Go.Proofs.YtjlagmcdoobimaaGreatDoor.Wh
