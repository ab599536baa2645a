/-
  What is proved: for each kind of operation, what it yields from the facts on its operands.
-/
import Derived.Test.YtkbilbeaedocjaaEnc
import Derived.Test.YtkbilbeaedocjaaPrim
import Derived.Shelf.Abstract
namespace Go.Proofs.Ytkbilbeaedocjaa.Wh
open Go Go.RowKit
section
variable {P : Program} {Γ : List (Nat × Pr)} {ty : TypeId}

theorem step_pure {op : Op} {φ : Pr} (h : ∀ (c : Mem2) (w : World) (a : Act), c.ok w → Met Γ op.operands.toList c a → ∃ v, (execOp a.eval (plain op ty)).run P w = .ok (.value v) w ∧ φ.p c v) : StepP P op ty Γ φ := by
  intro F w a hF hm
  obtain ⟨v, hr, hp⟩ := h (v2 F w) w a (v2_ok F w) hm
  unfold Ex
  rw [hr]
  exact ⟨Below.refl _ _, hp⟩
theorem sp_move {x : Operand} {φ : Pr} (hx : Od Γ x φ) : StepP P (.move x) ty Γ φ :=
  step_pure fun c w a hc hm => ⟨a.eval x, by simp [execOp, plain], hx.get hm (by simp [Op.operands])⟩
theorem sp_assign {x : Operand} {φ : Pr} (hx : Od Γ x φ) : StepP P (.assign x) ty Γ φ :=
  step_pure fun c w a hc hm => ⟨a.eval x, by simp [execOp, plain], hx.get hm (by simp [Op.operands])⟩

/-! ### numbers -/
theorem odi {n : Int} : Od Γ (.const (.int .i64 n)) (isV n) := fun _ => rfl
theorem odb {b : Bool} : Od Γ (.const (.bool b)) (isV b) := fun _ => rfl
theorem ods {s : ByteArray} : Od Γ (.const (.string s)) (isV s) := fun _ => rfl
theorem odnil {α : Type} [Enc α] : Od Γ (.const (.slice none 0 0)) (isV ([] : List α)) := fun _ => .inl ⟨none, 0, rfl, Nat.zero_le _, rfl⟩
theorem get_int {x : Operand} {n : Int} {xs : List Operand} {c : Mem2} {a : Act} (hx : Od Γ x (isV n)) (hm : Met Γ xs c a) (h : x ∈ xs) : a.eval x = .int .i64 n := hx.get hm h
theorem get_bool {x : Operand} {n : Bool} {xs : List Operand} {c : Mem2} {a : Act} (hx : Od Γ x (isV n)) (hm : Met Γ xs c a) (h : x ∈ xs) : a.eval x = .bool n := hx.get hm h
theorem bin_int {x y : Operand} {T T' : TypeId} {bop : BinOp} {m n : Int} {v : Value} {φ : Pr} (hx : Od Γ x (isV m)) (hy : Od Γ y (isV n))
    (hr : ∀ w, (binOp bop T (.int .i64 m) (.int .i64 n)).run P w = .ok v w) (hg : bop = bop) (hv : ∀ c, φ.p c v) : StepP P (.binOp bop T x y T') ty Γ φ :=
  step_pure fun c w a hc hm => by
    have h1 := get_int hx hm (by simp [Op.operands])
    have h2 := get_int hy hm (by simp [Op.operands])
    refine ⟨v, ?_, hv c⟩
    simp only [execOp, plain, h1, h2]
    have he : (eqGuard bop T x y (.int .i64 m) (.int .i64 n)).run P w = .ok () w := by
      unfold eqGuard
      split <;> simp
    simp only [Sem.run_bind, he, Result.andThen, hr w, Sem.run_pure]
section
variable {x y : Operand} {T T' : TypeId} {m n : Int} (hx : Od Γ x (isV m)) (hy : Od Γ y (isV n))
include hx hy
theorem sp_add : StepP P (.binOp .add T x y T') ty Γ (isV (wr (m + n))) := bin_int hx hy (v := .int .i64 (wr (m + n))) (fun w => by simp [binOp, Op.intArith, wr]) rfl (fun _ => rfl)
theorem sp_sub : StepP P (.binOp .sub T x y T') ty Γ (isV (wr (m - n))) := bin_int hx hy (v := .int .i64 (wr (m - n))) (fun w => by simp [binOp, Op.intArith, wr]) rfl (fun _ => rfl)
theorem sp_mul : StepP P (.binOp .mul T x y T') ty Γ (isV (wr (m * n))) := bin_int hx hy (v := .int .i64 (wr (m * n))) (fun w => by simp [binOp, Op.intArith, wr]) rfl (fun _ => rfl)
theorem sp_lss : StepP P (.binOp .lss T x y T') ty Γ (isV (decide (m < n))) := bin_int hx hy (v := .bool (decide (m < n))) (fun w => by simp [binOp, Op.intCmp]) rfl (fun _ => rfl)
theorem sp_leq : StepP P (.binOp .leq T x y T') ty Γ (isV (decide (m ≤ n))) := bin_int hx hy (v := .bool (decide (m ≤ n))) (fun w => by simp [binOp, Op.intCmp]) rfl (fun _ => rfl)
theorem sp_gtr : StepP P (.binOp .gtr T x y T') ty Γ (isV (decide (n < m))) := bin_int hx hy (v := .bool (decide (n < m))) (fun w => by simp [binOp, Op.intCmp]) rfl (fun _ => rfl)
theorem sp_geq : StepP P (.binOp .geq T x y T') ty Γ (isV (decide (n ≤ m))) := bin_int hx hy (v := .bool (decide (n ≤ m))) (fun w => by simp [binOp, Op.intCmp]) rfl (fun _ => rfl)
theorem sp_eql : StepP P (.binOp .eql T x y T') ty Γ (isV (m == n)) := bin_int hx hy (v := .bool (m == n)) (fun w => by simp [binOp, Op.intCmp]) rfl (fun _ => rfl)
theorem sp_neq : StepP P (.binOp .neq T x y T') ty Γ (isV (m != n)) := bin_int hx hy (v := .bool (m != n)) (fun w => by simp [binOp, Op.intCmp]) rfl (fun _ => rfl)
theorem sp_and : StepP P (.binOp .and T x y T') ty Γ (isV (band m n)) := bin_int hx hy (v := .int .i64 (band m n)) (fun w => rfl) rfl (fun _ => rfl)
theorem sp_or : StepP P (.binOp .or T x y T') ty Γ (isV (bor m n)) := bin_int hx hy (v := .int .i64 (bor m n)) (fun w => rfl) rfl (fun _ => rfl)
theorem sp_xor : StepP P (.binOp .xor T x y T') ty Γ (isV (bxor m n)) := bin_int hx hy (v := .int .i64 (bxor m n)) (fun w => rfl) rfl (fun _ => rfl)
theorem sp_andNot : StepP P (.binOp .andNot T x y T') ty Γ (isV (bclr m n)) := bin_int hx hy (v := .int .i64 (bclr m n)) (fun w => rfl) rfl (fun _ => rfl)
theorem sp_shl {r : Int} (h : shl m n = some r) : StepP P (.binOp .shl T x y T') ty Γ (isV r) :=
  bin_int hx hy (v := .int .i64 r) (fun w => by
    unfold shl at h
    split at h
    · cases h
    · rename_i hn; cases h; simp [binOp, Op.shift, hn, wr, IntKind.bits]) rfl (fun _ => rfl)
theorem sp_shr {r : Int} (h : shr m n = some r) : StepP P (.binOp .shr T x y T') ty Γ (isV r) :=
  bin_int hx hy (v := .int .i64 r) (fun w => by
    unfold shr at h
    split at h
    · cases h
    · rename_i hn; cases h; simp [binOp, Op.shift, hn, IntKind.bits]) rfl (fun _ => rfl)
theorem sp_quo {r : Int} (h : quo m n = some r) : StepP P (.binOp .quo T x y T') ty Γ (isV r) :=
  bin_int hx hy (v := .int .i64 r) (fun w => by
    unfold quo at h
    split at h
    · cases h
    · rename_i hn; cases h; simp [binOp, Op.intDiv, hn, wr]) rfl (fun _ => rfl)
theorem sp_rem {r : Int} (h : rem m n = some r) : StepP P (.binOp .rem T x y T') ty Γ (isV r) :=
  bin_int hx hy (v := .int .i64 r) (fun w => by
    unfold rem at h
    split at h
    · cases h
    · rename_i hn; cases h; simp [binOp, Op.intDiv, hn]) rfl (fun _ => rfl)
theorem sp_min : StepP P (.call { callee := .builtin .min, args := #[x, y], argTypes := #[T, T'] }) ty Γ (isV (imin m n)) :=
  step_pure fun c w a hc hm => by
    have h1 := get_int hx hm (by simp [Op.operands, Call.operands])
    have h2 := get_int hy hm (by simp [Op.operands, Call.operands])
    refine ⟨.int .i64 (imin m n), ?_, rfl⟩
    simp [execOp, plain, resolve, invoke, builtin, Builtin.min_, Builtin.min2, h1, h2, imin]
theorem sp_max : StepP P (.call { callee := .builtin .max, args := #[x, y], argTypes := #[T, T'] }) ty Γ (isV (imax m n)) :=
  step_pure fun c w a hc hm => by
    have h1 := get_int hx hm (by simp [Op.operands, Call.operands])
    have h2 := get_int hy hm (by simp [Op.operands, Call.operands])
    refine ⟨.int .i64 (imax m n), ?_, rfl⟩
    simp [execOp, plain, resolve, invoke, builtin, Builtin.max_, Builtin.max2, h1, h2, imax]
end
theorem sp_neg {x : Operand} {T : TypeId} {n : Int} (hx : Od Γ x (isV n)) : StepP P (.unOp .neg T x) ty Γ (isV (wr (0 - n))) :=
  step_pure fun c w a hc hm => by
    have h1 := get_int hx hm (by simp [Op.operands])
    exact ⟨.int .i64 (wr (0 - n)), by simp [execOp, plain, h1, Op.unary, Op.intArith, wr], rfl⟩
theorem sp_not {x : Operand} {T : TypeId} {b : Bool} (hx : Od Γ x (isV b)) : StepP P (.unOp .not T x) ty Γ (isV (!b)) :=
  step_pure fun c w a hc hm => by
    have h1 := get_bool hx hm (by simp [Op.operands])
    exact ⟨.bool (!b), by simp [execOp, plain, h1, Op.unary], rfl⟩
/-- 'g && e' -/
theorem sp_pickAnd {x y : Operand} {g e : Bool} (hx : Od Γ x (isV g)) (hy : g = true → Od Γ y (isV e)) : StepP P (.pick x y (.const (.bool false))) ty Γ (isV (g && e)) :=
  step_pure fun c w a hc hm => by
    have h1 := get_bool hx hm (by simp [Op.operands])
    refine ⟨.bool (g && e), ?_, rfl⟩
    cases hg : g with
    | true =>
      have h2 := get_bool (hy hg) hm (by simp [Op.operands])
      simp [execOp, plain, h1, hg, asBool, h2]
    | false =>
      have hk : a.eval (.const (.bool false)) = .bool false := rfl
      simp [execOp, plain, h1, hg, asBool, hk]
/-- 'g || e' -/
theorem sp_pickOr {x y : Operand} {g e : Bool} (hx : Od Γ x (isV g)) (hy : g = false → Od Γ y (isV e)) : StepP P (.pick x (.const (.bool true)) y) ty Γ (isV (g || e)) :=
  step_pure fun c w a hc hm => by
    have h1 := get_bool hx hm (by simp [Op.operands])
    refine ⟨.bool (g || e), ?_, rfl⟩
    cases hg : g with
    | false =>
      have h2 := get_bool (hy hg) hm (by simp [Op.operands])
      simp [execOp, plain, h1, hg, asBool, h2]
    | true =>
      have hk : a.eval (.const (.bool true)) = .bool true := rfl
      simp [execOp, plain, h1, hg, asBool, hk]
theorem run_equal_bool {T : TypeId} {m n : Bool} (hT : P.underlying T = some .bool) (w : World) : (Op.equal T (.bool m) (.bool n)).run P w = .ok (m == n) w := by
  have h : ∀ d, (Op.equalIn (d + 1) T (.bool m) (.bool n)).run P w = .ok (m == n) w := fun d => by simp [Op.equalIn, run_underlying hT]
  exact h 9999
theorem bin_bool {x y : Operand} {T T' : TypeId} {bop : BinOp} {m n : Bool} {v : Value} {φ : Pr} (hx : Od Γ x (isV m)) (hy : Od Γ y (isV n))
    (hr : ∀ w, (binOp bop T (.bool m) (.bool n)).run P w = .ok v w) (hv : ∀ c, φ.p c v) : StepP P (.binOp bop T x y T') ty Γ φ :=
  step_pure fun c w a hc hm => by
    have h1 := get_bool hx hm (by simp [Op.operands])
    have h2 := get_bool hy hm (by simp [Op.operands])
    refine ⟨v, ?_, hv c⟩
    simp only [execOp, plain, h1, h2]
    have he : (eqGuard bop T x y (.bool m) (.bool n)).run P w = .ok () w := by
      unfold eqGuard
      split <;> simp
    simp only [Sem.run_bind, he, Result.andThen, hr w, Sem.run_pure]
theorem sp_eqlB {x y : Operand} {T T' : TypeId} {m n : Bool} (hT : P.underlying T = some .bool) (hx : Od Γ x (isV m)) (hy : Od Γ y (isV n)) : StepP P (.binOp .eql T x y T') ty Γ (isV (m == n)) :=
  bin_bool hx hy (v := .bool (m == n)) (fun w => by simp only [binOp, Sem.run_bind, run_equal_bool hT, Result.andThen, Sem.run_pure]) (fun _ => rfl)
theorem sp_neqB {x y : Operand} {T T' : TypeId} {m n : Bool} (hT : P.underlying T = some .bool) (hx : Od Γ x (isV m)) (hy : Od Γ y (isV n)) : StepP P (.binOp .neq T x y T') ty Γ (isV (m != n)) :=
  bin_bool hx hy (v := .bool (m != n)) (fun w => by simp only [binOp, Sem.run_bind, run_equal_bool hT, Result.andThen, Sem.run_pure]; rfl) (fun _ => rfl)

/-! ### memory that is read -/
theorem sp_load {α : Type} [Enc α] {x : Operand} {T : TypeId} {d : α} (hT : TyP P T α) (hx : Od Γ x (isA d)) : StepP P (.load T x) ty Γ (isV d) :=
  step_pure fun c w a hc hm => by
    obtain ⟨b, off, hv, hh⟩ := hx.get hm (by simp [Op.operands])
    obtain ⟨v, hr, hval⟩ := run_load_holds hT hc.1 hh
    exact ⟨v, by simp [execOp, plain, hv, Instr.loadAt, Instr.sureAddr, hr], hval⟩
/-- A field of a struct: where it lies. -/
structure FieldP (P : Program) (T : TypeId) (k : Nat) {S α : Type} [Enc S] [Enc α] (f : S → α) : Prop where
  out : ∃ fs fd i, P.underlying T = some (.struct fs) ∧ fs[k]? = some fd ∧ P.info? fd.type = some i ∧ i.size = Enc.size α ∧ i.size ≠ 0 ∧
    (∀ (c : Mem) (vs : List Value) (x : S), Enc.rep c vs x → Enc.rep c ((vs.drop fd.offset).take (Enc.size α)) (f x))
theorem FieldP.mk' {P : Program} {T : TypeId} {k : Nat} {S α : Type} [Enc S] [Enc α] {f : S → α} {fs : Array Field} {fd : Field} (h1 : P.underlying T = some (.struct fs)) (h2 : fs[k]? = some fd)
    (h3 : (P.info? fd.type).map (·.size) = some (Enc.size α)) (h4 : Nat.beq (Enc.size α) 0 = false) (h5 : ∀ (c : Mem) (vs : List Value) (x : S), Enc.rep c vs x → Enc.rep c ((vs.drop fd.offset).take (Enc.size α)) (f x)) : FieldP P T k f := by
  cases h : P.info? fd.type with
  | none => rw [h] at h3; cases h3
  | some i =>
    rw [h] at h3
    have h3 : i.size = Enc.size α := by simpa using h3
    exact ⟨fs, fd, i, h1, h2, h, h3, by rw [h3]; exact Nat.ne_of_beq_eq_false h4, h5⟩
theorem sp_fieldAddr {S α : Type} [Enc S] [Enc α] {x : Operand} {T : TypeId} {k : Nat} {f : S → α} {d : S} (hf : FieldP P T k f) (hx : Od Γ x (isA d)) : StepP P (.fieldAddr T x k) ty Γ (isA (f d)) :=
  step_pure fun c w a hc hm => by
    obtain ⟨b, off, hv, vs, hr, hh⟩ := hx.get hm (by simp [Op.operands])
    obtain ⟨fs, fd, i, h1, h2, h3, h4, h5, h6⟩ := hf.out
    refine ⟨.pointer (some ⟨b, off + fd.offset, none⟩), ?_, b, off + fd.offset, rfl, _, h6 c.c vs d hr, fun j v e => ?_⟩
    · simp [execOp, plain, hv, Instr.fieldAt, run_underlying h1, h2, Instr.sureAddr, fieldPlace, Go.sizeOf, typeInfo, h3, h5, Addr.add_lit]
    · rw [List.getElem?_take] at e
      split at e
      · rw [List.getElem?_drop] at e
        have := hh _ _ e
        rw [Nat.add_assoc]; exact this
      · cases e
theorem idx_some {α : Type} {xs : List α} {k : Int} {y : α} (h : idx xs k = some y) : 0 ≤ k ∧ ∃ (hlt : k.toNat < xs.length), xs[k.toNat] = y := by
  unfold idx at h
  split at h
  · cases h
  · obtain ⟨hlt, he⟩ := List.getElem?_eq_some_iff.1 h
    exact ⟨by omega, hlt, he⟩
theorem sp_indexAddr {α : Type} [Enc α] {x k : Operand} {T E : TypeId} {xs : List α} {i : Int} {y : α} (hT : SlP P T E α) (hx : Od Γ x (isV xs)) (hk : Od Γ k (isV i)) (h : idx xs i = some y) : StepP P (.indexAddr T x k) ty Γ (isA y) :=
  step_pure fun c w a hc hm => by
    have h2 := get_int hk hm (by simp [Op.operands])
    have h1 : slice c.c (a.eval x) xs := hx.get hm (by simp [Op.operands])
    obtain ⟨h0, hlt, he⟩ := idx_some h
    rcases h1 with ⟨a', cap, hv, _, rfl⟩ | ⟨b, off, cap, hv, hl, hcap, hh⟩
    · simp at hlt
    · refine ⟨.pointer (some ⟨b, off + i.toNat * Enc.size α, none⟩), ?_, b, _, rfl, by rw [← he]; exact hh _ hlt⟩
      have hi : 0 ≤ i ∧ i < (xs.length : Int) := ⟨h0, by omega⟩
      simp [execOp, plain, h2, hv, Instr.indexAt, asIntOf, run_underlying hT.desc, hi, hT.elem.sizeOf w, Addr.add_lit]
theorem sp_len {α : Type} [Enc α] {x : Operand} {T E : TypeId} {xs : List α} (hT : P.underlying T = some (.slice E)) (hx : Od Γ x (isV xs)) : StepP P (.call { callee := .builtin .len, args := #[x], argTypes := #[T] }) ty Γ (isV (xs.length : Int)) :=
  step_pure fun c w a hc hm => by
    have h1 : slice c.c (a.eval x) xs := hx.get hm (by simp [Op.operands, Call.operands])
    obtain ⟨a', cap, hv, _, _⟩ := slice_len h1
    refine ⟨.int .i64 xs.length, ?_, rfl⟩
    simp [execOp, plain, resolve, invoke, builtin, Builtin.len_, hv, run_underlying hT, goInt]
theorem sp_lenS {x : Operand} {T : TypeId} {s : ByteArray} (hT : P.underlying T = some .string) (hx : Od Γ x (isV s)) : StepP P (.call { callee := .builtin .len, args := #[x], argTypes := #[T] }) ty Γ (isV (s.size : Int)) :=
  step_pure fun c w a hc hm => by
    have h1 : a.eval x = .string s := hx.get hm (by simp [Op.operands, Call.operands])
    refine ⟨.int .i64 s.size, ?_, rfl⟩
    simp [execOp, plain, resolve, invoke, builtin, Builtin.len_, h1, run_underlying hT, goInt]
/-! ### memory that is made -/
theorem cell_new (w : World) (cs : Array Value) (T : TypeId) (j : Nat) : (w.alloc (.cells cs T)).cell? ⟨w.heap.size, j, none⟩ = cs[j]? := by
  rw [cell_of_row _ _ _ cs T (0, 0) (heap_alloc_new w _)]
theorem below_alloc (w : World) (o : Obj) : Below w.heap.size w (w.alloc o) := (Below.refl _ _).alloc (Nat.le_refl _) o
theorem vw_new {F : Nat → Bool} {w : World} (hF : ∀ b, F b = true → b < w.heap.size) (o : Obj) (j : Nat) : vw F (w.alloc o) ⟨w.heap.size, j, none⟩ = (w.alloc o).cell? ⟨w.heap.size, j, none⟩ := by
  unfold vw
  rw [if_neg]
  intro h
  have := hF _ h
  exact absurd this (by simp)
theorem sp_box {α : Type} [Enc α] {x : Operand} {T : TypeId} {d : α} (hx : Od Γ x (isV d)) : StepP P (.box T x) ty Γ (isA d) := by
  intro F w a hF hm
  have h1 := val_cells (hx.get hm (by simp [Op.operands]))
  unfold Ex
  have hr : (execOp a.eval (plain (.box T x) ty)).run P w = .ok (.value (.pointer (some ⟨w.heap.size, 0, none⟩))) (w.alloc (.cells (a.eval x).cells T)) := by
    simp [execOp, plain, Instr.box, newVar, newRow]
  rw [hr]
  refine ⟨below_alloc _ _, _, _, rfl, _, Enc.mono (vw_below (below_alloc w _)) h1, fun j v e => ?_⟩
  show vw F _ _ = _
  rw [Nat.zero_add, vw_new hF, cell_new]
  simpa using e
end
end Go.Proofs.Ytkbilbeaedocjaa.Wh
