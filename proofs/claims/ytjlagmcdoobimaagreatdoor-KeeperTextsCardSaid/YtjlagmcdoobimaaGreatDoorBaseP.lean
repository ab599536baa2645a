/-
  What is proved: copies into an own slice; calls that read a table of the library's, which is as it was when the caller's call began.
-/
import Derived.Test.YtjlagmcdoobimaaGreatDoorBaseN
import Derived.Lib.AppendIntMem
import Derived.Lib.ItoaMem
namespace Go.Proofs.YtjlagmcdoobimaaGreatDoor.Wh
open Go Go.RowKit

/-! ### calls that read the table of powers -/
/-- The table is there. -/
def TabT (P : Program) (w : World) : Prop := Go.Lib.TabIs P w "internal/strconv.uint64pow10" .u64 Go.Lib.pow10Tab ∧ (∃ t q, w.cell? ⟨0, 0, none⟩ = some (.iface t q)) ∧ (∃ t q, w.cell? ⟨1, 0, none⟩ = some (.iface t q))
theorem TabT.on {P : Program} {w w' : World} (h : TabT P w) (hb : Below w.heap.size w w') : TabT P w' :=
  ⟨Go.Lib.tabBelow_of_tabIs (P := P) (w := w) (name := "internal/strconv.uint64pow10") (k := .u64) (zs := Go.Lib.pow10Tab) h.1 w' hb.kit,
   h.2.1.imp fun _ h => h.imp fun _ h => (World.cell?_of_block (hb.block _ (cell_lt h))).trans h, h.2.2.imp fun _ h => h.imp fun _ h => (World.cell?_of_block (hb.block _ (cell_lt h))).trans h⟩
def CallT (P : Program) (f : FuncId) (φs : List Pr) (ρ : Pr) : Prop :=
  ∀ (F : Nat → Bool) (w : World) (vs : List Value), TabT P w → (∀ b, F b = true → b < w.heap.size) → Fit (v2 F w) φs vs →
    Calls P f vs.toArray w fun e w' => ∃ v, e = .returned v ∧ Below w.heap.size w w' ∧ ρ.p (v2 F w') v
section
variable {P : Program} {Γ : List (Nat × Pr)} {n : Nat} {F0 : Nat → Bool} {js : List Item} {w0 w : World} {a : Act} {ops : Array Oper} {Q : Exit → Act → World → Prop} {ty : TypeId}
variable {t : TypeId} {ps : String} {af : Array Edge} {r : List Oper} {Δ : List (Nat × Pr)} {d : Nat}
theorem callT_of {f : FuncId} {fn : Func} {c : Code} {n : Nat} {φs : List Pr} {ρ : Pr} (hf : P.funcs[f]? = some fn) (hb : fn.body = some c) (hn : fn.ntmps = n) (hl : Nat.ble φs.length n = true)
    (h : ∀ (F0 : Nat → Bool) (w0 : World) (a : Act), TabT P w0 → St n F0 [] (zipG 0 φs) w0 a w0 → c.wp P (Fin P fn F0 w0 ρ) a w0) : CallT P f φs ρ := by
  intro F w vs hT hF hfit
  refine calls_of_wp hf hb (h F w _ hT (st_start hF ⟨?_, rfl, hF, ?_⟩))
  · have := hfit.len
    have := Nat.le_of_ble_eq_true hl
    simp [hn]; omega
  · intro t φ e
    have := sat_enter (c := v2 F w) (n := n - vs.length) 0 [] hfit rfl t φ e
    unfold tmp
    rw [Array.getD_eq_getD_getElem?]
    have e2 : ((vs.toArray ++ Array.replicate (fn.ntmps - vs.toArray.size) undef)[t]?) = ([] ++ vs ++ List.replicate (n - vs.length) undef)[t]? := by
      rw [← Array.getElem?_toList]; simp [hn]
    rw [e2]; exact this
theorem s_callT {f : FuncId} {xs : Array Operand} {ts : Array TypeId} {φs : List Pr} {ρ : Pr} (he : Enters P f) (hc : CallT P f φs ρ) (hT : TabT P w0) (h : St n F0 js Γ w0 a w) (hx : OdL Γ xs.toList φs) (hd : Nat.blt d n = true)
    (K : ∀ a' w', St n F0 js ((d, ρ) :: Γ) w0 a' w' → Mem.le (vw (pf F0 (Its js)) w) (vw (pf F0 (Its js)) w') → wpList P ops Q r a' w') :
    wpList P ops Q (⟨some d, .call { callee := .value (.func f), args := xs, argTypes := ts }, t, ps, af, none⟩ :: r) a w := by
  have hm : ∀ xs, Met Γ xs (v2 (pf F0 (Its js)) w) a := h.at_.met
  have hfit := OdL.fit (hm (Op.call { callee := .value (.func f), args := xs, argTypes := ts }).operands.toList) hx (fun y hy => mem_call hy)
  have hrun : (execOp a.eval ⟨some d, .call { callee := .value (.func f), args := xs, argTypes := ts }, t, ps, af, none⟩).run P w = .ok (.enter f (xs.toList.map a.eval).toArray) w := by
    have h0 : a.eval (.func f) = .func (.func f) #[] #[] := rfl
    have h1 : xs.map a.eval = (xs.toList.map a.eval).toArray := by rw [← Array.toList_map]
    simp [execOp, resolve, h0, Deferred.ofValue, invoke, h1, he _ w]
  unfold wpList
  simp only [Region.wanted, if_true]
  refine .inl (wp_of_ex ?_)
  unfold Ex
  rw [hrun]
  refine (hc (pf F0 (Its js)) w _ (hT.on h.below) h.at_.own hfit).mono fun e w' ⟨v, hev, hb, hp⟩ => ⟨v, hev, ?_⟩
  exact K _ _ (h.grow hb (h.at_.step (d := some d) hb (fun k e => by cases e; simpa [Nat.blt_eq] using hd) hp)) (vw_below hb)

/-! ### copies into an own slice, of elements of one cell -/
theorem bin_str {x y : Operand} {T T' : TypeId} {bop : BinOp} {m n : ByteArray} {v : Value} {φ : Pr} (hx : Od Γ x (isV m)) (hy : Od Γ y (isV n))
    (hr : ∀ w, (binOp bop T (.string m) (.string n)).run P w = .ok v w) (hv : ∀ c, φ.p c v) : StepP P (.binOp bop T x y T') ty Γ φ :=
  step_pure fun c w a hc hm => by
    have h1 : a.eval x = .string m := hx.get hm (by simp [Op.operands])
    have h2 : a.eval y = .string n := hy.get hm (by simp [Op.operands])
    refine ⟨v, ?_, hv c⟩
    simp only [execOp, plain, h1, h2]
    cases bop <;> simp [eqGuard, hr]
theorem sp_eqlStr {x y : Operand} {T T' : TypeId} {m n : ByteArray} (hx : Od Γ x (isV m)) (hy : Od Γ y (isV n)) : StepP P (.binOp .eql T x y T') ty Γ (isV (m == n)) :=
  bin_str hx hy (v := .bool (m == n)) (fun w => by simp [binOp, Op.stringOp, beq_toListBytes]) (fun _ => rfl)
theorem sp_neqStr {x y : Operand} {T T' : TypeId} {m n : ByteArray} (hx : Od Γ x (isV m)) (hy : Od Γ y (isV n)) : StepP P (.binOp .neq T x y T') ty Γ (isV (m != n)) :=
  bin_str hx hy (v := .bool (m != n)) (fun w => by simp [binOp, Op.stringOp, bne, beq_toListBytes]) (fun _ => rfl)
end
end Go.Proofs.YtjlagmcdoobimaaGreatDoor.Wh
