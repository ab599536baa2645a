/-
  What is proved: '==' and '!=' on structs and arrays.
-/
import Derived.Test.YtkbilbeaedocjaaSt5
import Derived.Laws.StructEq
import Derived.ChangeKeysEq
namespace Go.Proofs.Ytkbilbeaedocjaa.Wh
open Go Go.RowKit

structure EqP (P : Program) (k : Nat) (T : TypeId) (α : Type) [Enc α] [BEq α] : Prop where
  out : ∀ (d : Nat) (c c' : Mem) (v u : Value) (x y : α) (w : World), val c v x → val c' u y → (Op.equalIn (d + k) T v u).run P w = .ok (x == y) w
section
variable {P : Program} {Γ : List (Nat × Pr)} {ty : TypeId}
theorem EqP.up {k : Nat} {T : TypeId} {α : Type} [Enc α] [BEq α] (h : EqP P k T α) : EqP P (k + 1) T α :=
  ⟨fun d c c' v u x y w hv hu => by rw [show d + (k + 1) = (d + 1) + k from by omega]; exact h.out (d + 1) c c' v u x y w hv hu⟩
theorem EqP.int {T : TypeId} (hT : P.underlying T = some (.int .i64)) : EqP P 1 T Int := ⟨fun d c c' v u x y w hv hu => by
  have hv : v = .int .i64 x := hv
  have hu : u = .int .i64 y := hu
  subst hv; subst hu
  simp [Op.equalIn, run_underlying hT]⟩
theorem EqP.bool {T : TypeId} (hT : P.underlying T = some .bool) : EqP P 1 T Bool := ⟨fun d c c' v u x y w hv hu => by
  have hv : v = .bool x := hv
  have hu : u = .bool y := hu
  subst hv; subst hu
  simp [Op.equalIn, run_underlying hT]⟩
theorem EqP.str {T : TypeId} (hT : P.underlying T = some .string) : EqP P 1 T ByteArray := ⟨fun d c c' v u x y w hv hu => by
  have hv : v = .string x := hv
  have hu : u = .string y := hu
  subst hv; subst hu
  simp [Op.equalIn, run_underlying hT]⟩
theorem run_part {T : TypeId} {α : Type} [Enc α] (hT : TyP P T α) {c : Mem} {vs : List Value} {off : Nat} {x : α} (h : Enc.rep c ((vs.drop off).take (Enc.size α)) x) (w : World) : ∃ v, (part T vs.toArray off).run P w = .ok v w ∧ val c v x := by
  have hl := Enc.len h
  unfold part
  simp only [Sem.run_bind, hT.isAgg w, Result.andThen]
  cases ha : Enc.agg α with
  | false =>
    have h1 := Enc.one (α := α) ha
    rw [h1] at hl h
    rw [List.length_take, List.length_drop] at hl
    have hlt : off < vs.length := by omega
    refine ⟨vs[off], ?_, ?_⟩
    · simp [hlt]
    · unfold val; rw [ha]
      rw [List.drop_eq_getElem_cons hlt] at h
      exact h
  | true =>
    refine ⟨.agg (vs.toArray.extract off (off + Enc.size α)), ?_, ?_⟩
    · simp [hT.sizeOf w]
    · unfold val; rw [ha]
      refine ⟨_, ?_, h⟩
      congr 1
      apply Array.ext'
      simp [List.extract_eq_take_drop]
def FsEq (P : Program) (k : Nat) {S : Type} [Enc S] : List Field → (S → S → Bool) → Prop
  | [], b => ∀ x y, b x y = true
  | f :: fs, b => f.name ≠ "_" ∧ ∃ (α : Type) (_ : Enc α) (_ : BEq α) (p : S → α) (b' : S → S → Bool), TyP P f.type α ∧ EqP P k f.type α ∧ (∀ (c : Mem) (vs : List Value) (x : S), Enc.rep c vs x → Enc.rep c ((vs.drop f.offset).take (Enc.size α)) (p x)) ∧ FsEq P k fs b' ∧ ∀ x y, b x y = ((p x == p y) && b' x y)
theorem fsEq_run {k d : Nat} {S : Type} [Enc S] {c c' : Mem} {vs us : List Value} {x y : S} (hx : Enc.rep c vs x) (hy : Enc.rep c' us y) (w : World) : ∀ {fs : List Field} {b : S → S → Bool}, FsEq P k fs b → (Op.eqFields (d + k) vs.toArray us.toArray fs).run P w = .ok (b x y) w
  | [], b, h => by simp [Op.eqFields, h x y]
  | f :: fs, b, h => by
    obtain ⟨hn, α, i1, i2, p, b', hT, hE, hr, hfs, hb⟩ := h
    obtain ⟨v, hv1, hv2⟩ := run_part hT (hr c vs x hx) w
    obtain ⟨u, hu1, hu2⟩ := run_part hT (hr c' us y hy) w
    have he := hE.out d c c' v u (p x) (p y) w hv2 hu2
    have ih := fsEq_run (d := d) hx hy w hfs
    unfold Op.eqFields
    rw [if_pos hn]
    simp only [Sem.run_bind, hv1, hu1, he, Result.andThen_ok, hb]
    cases hq : p x == p y with
    | false => simp
    | true => simp [ih]
theorem EqP.struct {k : Nat} {T : TypeId} {S : Type} [Enc S] [BEq S] {fs : List Field} (ha : Enc.agg S = true) (hT : P.underlying T = some (.struct fs.toArray)) (hp : P.stoodInHeld T = false) (h : FsEq P k fs (fun x y : S => x == y)) : EqP P (k + 1) T S := ⟨fun d c c' v u x y w hv hu => by
  unfold val at hv hu
  rw [ha] at hv hu
  obtain ⟨vs, rfl, hv⟩ := hv
  obtain ⟨us, rfl, hu⟩ := hu
  have hf : P.fieldsOf T = fs.toArray := by simp [Program.fieldsOf, hT]
  have := run_equalIn_struct w (d + k) T vs.toArray us.toArray (by rw [hf]; exact hT) hp
  rw [show d + (k + 1) = d + k + 1 from rfl, this, hf]
  exact fsEq_run hv hu w h⟩
theorem rep_drop {α : Type} [Enc α] {c : Mem} : ∀ {cells : List Value} {xs : List α}, RepL c cells xs → ∀ i (h : i < xs.length), Enc.rep c ((cells.drop (i * Enc.size α)).take (Enc.size α)) xs[i]
  | _, [], _, i, h => by simp at h
  | _, x :: xs, ⟨v1, v2, he, h1, h2⟩, i, h => by
    have hl := Enc.len h1
    cases i with
    | zero => rw [he, Nat.zero_mul, List.drop_zero, ← hl, List.take_left]; exact h1
    | succ i =>
      have := rep_drop h2 i (by simpa using h)
      rw [he, show (i + 1) * Enc.size α = v1.length + i * Enc.size α from by rw [Nat.succ_mul, hl]; omega, ← List.drop_drop, List.drop_left]
      exact this
theorem eqItems_run {k d : Nat} {E : TypeId} {α : Type} [Enc α] [BEq α] [LawfulBEq α] (hT : TyP P E α) (hE : EqP P k E α) {c c' : Mem} {vs us : List Value} {xs ys : List α} (hx : RepL c vs xs) (hy : RepL c' us ys) (w : World) :
    ∀ (is : List Nat), (∀ i ∈ is, i < xs.length ∧ i < ys.length) → ∃ b, (Op.eqItems (d + k) E (Enc.size α) vs.toArray us.toArray is).run P w = .ok b w ∧ (b = true ↔ ∀ i ∈ is, xs[i]? = ys[i]?)
  | [], _ => ⟨true, by simp [Op.eqItems], by simp⟩
  | i :: is, h => by
    obtain ⟨h1, h2⟩ := h i (by simp)
    obtain ⟨v, hv1, hv2⟩ := run_part hT (rep_drop hx i h1) w
    obtain ⟨u, hu1, hu2⟩ := run_part hT (rep_drop hy i h2) w
    have he := hE.out d c c' v u xs[i] ys[i] w hv2 hu2
    obtain ⟨b, hb, hi⟩ := eqItems_run (d := d) hT hE hx hy w is fun j hj => h j (by simp [hj])
    unfold Op.eqItems
    simp only [Sem.run_bind, hv1, hu1, he, Result.andThen_ok]
    cases hq : xs[i] == ys[i] with
    | false =>
      refine ⟨false, by simp, by simp only [Bool.false_eq_true, false_iff]; intro hall; have := hall i (by simp); rw [List.getElem?_eq_getElem h1, List.getElem?_eq_getElem h2] at this; simp at this; rw [this] at hq; simp at hq⟩
    | true =>
      have hq' := eq_of_beq hq
      refine ⟨b, by simp [hb], ?_⟩
      rw [hi]
      constructor <;> intro hall j hj
      · rcases List.mem_cons.1 hj with rfl | hj
        · rw [List.getElem?_eq_getElem h1, List.getElem?_eq_getElem h2, hq']
        · exact hall j hj
      · exact hall j (by simp [hj])
theorem EqP.array {k n : Nat} {T E : TypeId} {α : Type} [Enc α] [BEq α] [LawfulBEq α] (hT : ArP P T E n α) (hE : EqP P k E α) : EqP P (k + 1) T (Vector α n) := ⟨fun d c c' v u x y w hv hu => by
  have hv : ∃ vs, v = .agg vs.toArray ∧ RepL c vs x.toList := hv
  have hu : ∃ vs, u = .agg vs.toArray ∧ RepL c' vs y.toList := hu
  obtain ⟨vs, e1, hv⟩ := hv
  obtain ⟨us, e2, hu⟩ := hu
  subst e1; subst e2
  obtain ⟨i, hi, hs⟩ := hT.elem.info
  have hc : P.cellsOf E = Enc.size α := by simp [Program.cellsOf, hi, hs]
  rw [show d + (k + 1) = d + k + 1 from rfl, run_equalIn_array w (d + k) vs.toArray us.toArray hT.desc hi, hc]
  obtain ⟨b, hb, hiff⟩ := eqItems_run (d := d) (vs := vs) (us := us) (xs := x.toList) (ys := y.toList) (c := c) (c' := c') hT.elem hE (by assumption) (by assumption) w (List.range n) (fun j hj => by simpa using List.mem_range.1 hj)
  rw [hb]
  congr 1
  apply Bool.eq_iff_iff.2
  rw [hiff, beq_iff_eq]
  constructor
  · intro h
    apply Vector.ext
    intro j hj
    have := h j (List.mem_range.2 hj)
    simpa [hj] using this
  · rintro rfl j _; rfl⟩
theorem sp_eqlS {k : Nat} {α : Type} [Enc α] [BEq α] {x y : Operand} {T T' : TypeId} {m n : α} (hE : EqP P k T α) (ha : Enc.agg α = true) (hg : P.eqGuardType P.depth T = false) (hk : Nat.ble k 10000 = true) (hx : Od Γ x (isV m)) (hy : Od Γ y (isV n)) : StepP P (.binOp .eql T x y T') ty Γ (isV (m == n)) :=
  step_pure fun c w a hc hm => by
    have h1 : val c.c (a.eval x) m := hx.get hm (by simp [Op.operands])
    have h2 : val c.c (a.eval y) n := hy.get hm (by simp [Op.operands])
    have he := hE.out (10000 - k) c.c c.c _ _ m n w h1 h2
    rw [Nat.sub_add_cancel (Nat.le_of_ble_eq_true hk)] at he
    unfold val at h1 h2
    rw [ha] at h1 h2
    obtain ⟨vs, hv, _⟩ := h1
    obtain ⟨us, hu, _⟩ := h2
    refine ⟨.bool (m == n), ?_, rfl⟩
    rw [hv, hu] at he
    simp [execOp, plain, hv, hu, run_eqGuard_agg w _ _ _ _ _ _ hg, run_eql_struct, he]
theorem sp_neqS {k : Nat} {α : Type} [Enc α] [BEq α] {x y : Operand} {T T' : TypeId} {m n : α} (hE : EqP P k T α) (ha : Enc.agg α = true) (hg : P.eqGuardType P.depth T = false) (hk : Nat.ble k 10000 = true) (hx : Od Γ x (isV m)) (hy : Od Γ y (isV n)) : StepP P (.binOp .neq T x y T') ty Γ (isV (m != n)) :=
  step_pure fun c w a hc hm => by
    have h1 : val c.c (a.eval x) m := hx.get hm (by simp [Op.operands])
    have h2 : val c.c (a.eval y) n := hy.get hm (by simp [Op.operands])
    have he := hE.out (10000 - k) c.c c.c _ _ m n w h1 h2
    rw [Nat.sub_add_cancel (Nat.le_of_ble_eq_true hk)] at he
    unfold val at h1 h2
    rw [ha] at h1 h2
    obtain ⟨vs, hv, _⟩ := h1
    obtain ⟨us, hu, _⟩ := h2
    refine ⟨.bool (m != n), ?_, rfl⟩
    rw [hv, hu] at he
    simp [execOp, plain, hv, hu, run_eqGuard_agg w _ _ _ _ _ _ hg, run_neq_struct, he, bne]
theorem sp_field {S α : Type} [Enc S] [Enc α] {x : Operand} {T : TypeId} {k : Nat} {f : S → α} {d : S} {fs : Array Field} {fd : Field} (h1 : P.underlying T = some (.struct fs)) (h2 : fs[k]? = some fd) (ha : Enc.agg S = true) (ht : TyP P fd.type α)
    (hr : ∀ (c : Mem) (vs : List Value) (x : S), Enc.rep c vs x → Enc.rep c ((vs.drop fd.offset).take (Enc.size α)) (f x)) (hx : Od Γ x (isV d)) : StepP P (.field T x k) ty Γ (isV (f d)) :=
  step_pure fun c w a hc hm => by
    have h3 : val c.c (a.eval x) d := hx.get hm (by simp [Op.operands])
    unfold val at h3
    rw [ha] at h3
    obtain ⟨vs, hv, h4⟩ := h3
    obtain ⟨v, h5, h6⟩ := run_part (P := P) ht (hr c.c vs d h4) w
    exact ⟨v, by simp [execOp, plain, hv, Instr.field, run_underlying h1, h2, asAgg, h5], h6⟩
end
end Go.Proofs.Ytkbilbeaedocjaa.Wh
