/-
  What is proved: operations on texts and their bytes, and errors that are compared with nil.
-/
import Derived.Test.YtnnhmgcigoiceaaGreatDoorBaseR
namespace Go.Proofs.YtnnhmgcigoiceaaGreatDoor.Wh
open Go Go.RowKit

instance : Enc UInt8 := Enc.single (fun _ v x => v = .int .u8 (x.toNat : Int)) (fun _ h => h) (fun h => by subst h; rfl)
/-- A value of the type error: whether it is another than nil. -/
structure ErrV where
  bad : Bool
instance : Enc ErrV := Enc.single (fun _ v x => (v = .nilIface ∧ x.bad = false) ∨ ∃ t p, v = .iface t p ∧ x.bad = true) (fun _ h => h) (fun h => by rcases h with ⟨rfl, _⟩ | ⟨t, p, rfl, _⟩ <;> rfl)
/-- A byte of a text. -/
def sidx (s : ByteArray) (i : Int) : Option UInt8 := if 0 ≤ i then s[i.toNat]? else none
/-- Two texts put together. -/
def cat (m n : ByteArray) : Option ByteArray := if m.size + n.size ≤ 1000000 then some (m ++ n) else none
section
variable {P : Program} {Γ : List (Nat × Pr)} {ty : TypeId}
theorem odu8 (n : UInt8) {k : Int} (h : k = (n.toNat : Int)) : Od Γ (.const (.int .u8 k)) (isV n) := by subst h; exact fun _ => rfl
theorem sp_strIdx {x i : Operand} {T : TypeId} {s : ByteArray} {n : Int} {b : UInt8} (hT : P.underlying T = some .string) (hx : Od Γ x (isV s)) (hi : Od Γ i (isV n)) (h : sidx s n = some b) : StepP P (.index T x i) ty Γ (isV b) :=
  step_pure fun c w a hc hm => by
    have h1 : a.eval x = .string s := hx.get hm (by simp [Op.operands])
    have h2 : a.eval i = .int .i64 n := hi.get hm (by simp [Op.operands])
    refine ⟨.int .u8 (b.toNat : Int), ?_, rfl⟩
    unfold sidx at h
    simp [execOp, plain, h1, h2, Instr.index, asIntOf, run_underlying hT, h]
theorem bin8 {x y : Operand} {T T' : TypeId} {bop : BinOp} {m n : UInt8} {v : Value} {φ : Pr} (hx : Od Γ x (isV m)) (hy : Od Γ y (isV n))
    (hr : ∀ w, (binOp bop T (.int .u8 (m.toNat : Int)) (.int .u8 (n.toNat : Int))).run P w = .ok v w) (hv : ∀ c, φ.p c v) : StepP P (.binOp bop T x y T') ty Γ φ :=
  step_pure fun c w a hc hm => by
    have h1 : a.eval x = .int .u8 (m.toNat : Int) := hx.get hm (by simp [Op.operands])
    have h2 : a.eval y = .int .u8 (n.toNat : Int) := hy.get hm (by simp [Op.operands])
    refine ⟨v, ?_, hv c⟩
    simp only [execOp, plain, h1, h2]
    have he : (eqGuard bop T x y (.int .u8 (m.toNat : Int)) (.int .u8 (n.toNat : Int))).run P w = .ok () w := by
      unfold eqGuard
      split <;> simp
    simp only [Sem.run_bind, he, Result.andThen, hr w, Sem.run_pure]
theorem eq8 {m n : UInt8} : (((m.toNat : Int) == (n.toNat : Int)) : Bool) = (m == n) := by
  apply Bool.eq_iff_iff.2
  simp only [beq_iff_eq]
  constructor
  · intro h; exact UInt8.toNat_inj.1 (by omega)
  · intro h; rw [h]
section
variable {x y : Operand} {T T' : TypeId} {m n : UInt8} (hx : Od Γ x (isV m)) (hy : Od Γ y (isV n))
include hx hy
theorem sp_leq8 : StepP P (.binOp .leq T x y T') ty Γ (isV (decide (m ≤ n))) := bin8 hx hy (v := .bool (decide (m ≤ n))) (fun w => by simp [binOp, Op.intCmp, UInt8.le_iff_toNat_le]) (fun _ => rfl)
theorem sp_geq8 : StepP P (.binOp .geq T x y T') ty Γ (isV (decide (n ≤ m))) := bin8 hx hy (v := .bool (decide (n ≤ m))) (fun w => by simp [binOp, Op.intCmp, UInt8.le_iff_toNat_le]) (fun _ => rfl)
theorem sp_eql8 : StepP P (.binOp .eql T x y T') ty Γ (isV (m == n)) := bin8 hx hy (v := .bool (m == n)) (fun w => by rw [← eq8]; simp [binOp, Op.intCmp]) (fun _ => rfl)
theorem sp_sub8 : StepP P (.binOp .sub T x y T') ty Γ (isV (m - n)) := bin8 hx hy (v := .int .u8 ((m - n).toNat : Int)) (fun w => by
  have e : IntKind.u8.wrap ((m.toNat : Int) - (n.toNat : Int)) = ((m - n).toNat : Int) := by
    have h1 := m.toNat_lt; have h2 := n.toNat_lt
    rw [UInt8.toNat_sub]
    simp [IntKind.wrap, IntKind.bits, IntKind.signed]
    omega
  simp [binOp, Op.intArith, e]) (fun _ => rfl)
end
theorem sp_cat {x y : Operand} {T T' : TypeId} {m n r : ByteArray} (hx : Od Γ x (isV m)) (hy : Od Γ y (isV n)) (h : cat m n = some r) : StepP P (.binOp .add T x y T') ty Γ (isV r) := by
  unfold cat at h
  split at h
  · rename_i hb
    cases h
    have e : ¬ (((m.size + n.size : Nat) : Int) > IntKind.i64.max) := by
      show ¬ ((m.size + n.size : Nat) : Int) > 9223372036854775807
      omega
    exact bin_str hx hy (v := .string (m ++ n)) (fun w => by simp only [binOp, Op.stringOp]; rw [if_neg e]; rfl) (fun _ => rfl)
  · cases h
theorem sp_conv8 {x : Operand} {T T' : TypeId} {b : UInt8} (hT : P.underlying T = some (.int .u8)) (hT' : P.underlying T' = some (.int .i64)) (hx : Od Γ x (isV b)) : StepP P (.convert T T' x) ty Γ (isV (b.toNat : Int)) :=
  step_pure fun c w a hc hm => by
    have h2 : a.eval x = .int .u8 (b.toNat : Int) := hx.get hm (by simp [Op.operands])
    have hb := b.toNat_lt
    have e : IntKind.i64.wrap (b.toNat : Int) = (b.toNat : Int) := by
      simp [IntKind.wrap, IntKind.bits, IntKind.signed]
      omega
    exact ⟨.int .i64 (b.toNat : Int), by simp [execOp, plain, h2, convert, run_underlying hT, run_underlying hT', Conv.intToInt, e], rfl⟩
theorem run_equal_err {T : TypeId} {ms : Array (String × TypeId)} {e : ErrV} {v : Value} (hT : P.underlying T = some (.interface ms)) (h : (v = .nilIface ∧ e.bad = false) ∨ ∃ t p, v = .iface t p ∧ e.bad = true) (w : World) : (Op.equal T v .nilIface).run P w = .ok (!e.bad) w := by
  have h : ∀ d, (Op.equalIn (d + 1) T v .nilIface).run P w = .ok (!e.bad) w := fun d => by
    rcases h with ⟨rfl, he⟩ | ⟨t, p, rfl, he⟩ <;> simp [Op.equalIn, run_underlying hT, he]
  exact h 9999
theorem bin_err {x : Operand} {T T' : TypeId} {bop : BinOp} {e : ErrV} {v : Value} {φ : Pr} (hx : Od Γ x (isV e))
    (hr : ∀ w u, ((u = .nilIface ∧ e.bad = false) ∨ ∃ t p, u = .iface t p ∧ e.bad = true) → (binOp bop T u .nilIface).run P w = .ok v w) (hv : ∀ c, φ.p c v) : StepP P (.binOp bop T x (.const .nilIface) T') ty Γ φ :=
  step_pure fun c w a hc hm => by
    have h1 : (a.eval x = .nilIface ∧ e.bad = false) ∨ ∃ t p, a.eval x = .iface t p ∧ e.bad = true := hx.get hm (by simp [Op.operands])
    have h2 : a.eval (.const .nilIface) = .nilIface := rfl
    refine ⟨v, ?_, hv c⟩
    have hr := hr w _ h1
    simp only [execOp, plain, h2]
    generalize a.eval x = u at h1 hr ⊢
    have he : (eqGuard bop T x (.const .nilIface) u .nilIface).run P w = .ok () w := by
      unfold eqGuard
      rcases h1 with ⟨rfl, _⟩ | ⟨t, p, rfl, _⟩ <;> split <;> simp
    simp only [Sem.run_bind, he, Result.andThen, hr, Sem.run_pure]
theorem sp_neqErr {x : Operand} {T T' : TypeId} {ms : Array (String × TypeId)} {e : ErrV} (hT : P.underlying T = some (.interface ms)) (hx : Od Γ x (isV e)) : StepP P (.binOp .neq T x (.const .nilIface) T') ty Γ (isV e.bad) :=
  bin_err hx (v := .bool e.bad) (fun w u h => by
    have := run_equal_err hT h w
    rcases h with ⟨rfl, he⟩ | ⟨t, p, rfl, he⟩ <;> simp only [binOp, Sem.run_bind, this, Result.andThen, Sem.run_pure, Bool.not_not]) (fun _ => rfl)
end
theorem run_resC2 {P : Program} {fn : Func} {α : Type} [Enc α] {T t p : Nat} {F : Nat → Bool} {a : Act} {w : World} {x : α} (hr : fn.results = #[.cell t T, .tmp p]) (hT : TyP P T α) (h : (isA x).p (v2 F w) (tmp a t)) :
    ∃ v, (results fn a.tmps).run P w = .ok (.tuple [v, tmp a p].toArray) w ∧ (isV x).p (v2 F w) v := by
  obtain ⟨v, h1, h2⟩ := run_cell (P := P) hT h
  refine ⟨v, ?_, h2⟩
  simp [results, hr, tmp]
  simp at h1
  cases hq : Sem.run P (asAddr (a.tmps[t]?.getD undef)) w with
  | ok b w1 =>
    rw [hq] at h1
    have h1 : Sem.run P (loadVar T b) w1 = .ok v w := h1
    show (Sem.run P (loadVar T b) w1).andThen _ = _
    rw [h1]; rfl
  | halt e w1 => rw [hq] at h1; cases h1
end Go.Proofs.YtnnhmgcigoiceaaGreatDoor.Wh
