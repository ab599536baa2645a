/-
  What is proved: a small logic for walking Go functions by facts on their slots; nothing is assumed beyond what each theorem states.
-/
import Derived.WalkKit
import Derived.Orders
import Derived.Below
import Derived.Deep.Draws
import Derived.KernelRfl
namespace Go.Proofs.Ytkbilbeaedocjaa.Wh
open Go Go.RowKit

/-! ### what stays: the kit's 'Below', and that draws are not taken back -/
structure Below (B : Nat) (w w' : World) : Prop where
  os : w'.os = w.os
  tape : w'.tape = w.tape
  output : w'.output = w.output
  size : w.heap.size ≤ w'.heap.size
  block : ∀ k, k < B → w'.heap[k]? = w.heap[k]?
  drawn : w.drawn ≤ w'.drawn
theorem Below.kit {B : Nat} {w w' : World} (h : Below B w w') : Go.RowKit.Below B w w' := ⟨h.os, h.tape, h.output, h.size, h.block⟩
theorem Below.refl (B : Nat) (w : World) : Below B w w := ⟨rfl, rfl, rfl, Nat.le_refl _, fun _ _ => rfl, Nat.le_refl _⟩
theorem Below.trans {B : Nat} {a b c : World} (h : Below B a b) (k : Below B b c) : Below B a c :=
  ⟨k.os.trans h.os, k.tape.trans h.tape, k.output.trans h.output, Nat.le_trans h.size k.size, fun i hi => (k.block i hi).trans (h.block i hi), Nat.le_trans h.drawn k.drawn⟩
theorem Below.mono {B B' : Nat} {w w' : World} (h : Below B w w') (hB : B' ≤ B) : Below B' w w' := ⟨h.os, h.tape, h.output, h.size, fun k hk => h.block k (Nat.lt_of_lt_of_le hk hB), h.drawn⟩
theorem Below.drew {B : Nat} {a w : World} (h : Below B a w) : Below B a w.drew := ⟨h.os, h.tape, h.output, h.size, h.block, Nat.le_trans h.drawn (Nat.le_succ _)⟩
theorem Below.alloc {B : Nat} {a w : World} (h : Below B a w) (hB : B ≤ w.heap.size) (o : Obj) : Below B a (w.alloc o) :=
  h.trans ⟨rfl, rfl, rfl, by simp, fun k hk => Go.RowKit.Below.heap_alloc _ _ _ (by omega), Nat.le_refl _⟩
theorem Below.grown {B : Nat} {a w w' : World} {row : Option Nat} (h : Below B a w) (hg : w.grownBy w' row) (hd : w.drawn ≤ w'.drawn) (hB : B ≤ w.heap.size) (hr : ∀ k, row = some k → B ≤ k) : Below B a w' :=
  h.trans ⟨hg.os, hg.tape, hg.output, hg.size, fun k hk => hg.block k (by omega) (fun e => by have := hr k e.symm; omega), hd⟩
theorem Below.cell {B : Nat} {w w' : World} (h : Below B w w') {p : Addr} (hp : p.block < B) : w'.cell? p = w.cell? p := h.kit.cell hp

/-! ### memory as it is seen: cells outside of a set of blocks -/
def Mem : Type := Addr → Option Value
def Mem.le (c c' : Mem) : Prop := ∀ a v, c a = some v → c' a = some v
theorem Mem.le_refl (c : Mem) : Mem.le c c := fun _ _ h => h
theorem Mem.le_trans {a b c : Mem} (h : Mem.le a b) (k : Mem.le b c) : Mem.le a c := fun x v e => k x v (h x v e)
def vw (F : Nat → Bool) (w : World) : Mem := fun a => if F a.block then none else w.cell? a
theorem cell_lt {w : World} {a : Addr} {v : Value} (h : w.cell? a = some v) : a.block < w.heap.size := by
  unfold World.cell? at h
  rcases Nat.lt_or_ge a.block w.heap.size with hl | hl
  · exact hl
  · rw [Array.getElem?_eq_none hl] at h; cases h
theorem vw_below {F : Nat → Bool} {w w' : World} (h : Below w.heap.size w w') : Mem.le (vw F w) (vw F w') := by
  intro a v e
  unfold vw at *
  split at e
  · cases e
  · rename_i hf
    rw [if_neg hf, h.cell (cell_lt e)]
    exact e
theorem vw_less {F F' : Nat → Bool} {w : World} (h : ∀ b, F' b = true → F b = true) : Mem.le (vw F w) (vw F' w) := by
  intro a v e
  unfold vw at *
  split at e
  · cases e
  · rename_i hf
    rw [if_neg (fun hh => hf (h _ hh))]
    exact e
theorem vw_cell {F : Nat → Bool} {w : World} {a : Addr} {v : Value} (h : vw F w a = some v) : w.cell? a = some v := by
  unfold vw at h
  split at h
  · cases h
  · exact h
/-- Two memories: what is seen as written no more, and all that is there at this moment. -/
structure Mem2 where
  c : Mem
  m : Mem
def Mem2.le (x y : Mem2) : Prop := Mem.le x.c y.c ∧ Mem.le x.m y.m
def Mem2.ok (x : Mem2) (w : World) : Prop := Mem.le x.c w.cell? ∧ Mem.le x.m w.cell?
def v2 (F : Nat → Bool) (w : World) : Mem2 := ⟨vw F w, w.cell?⟩
theorem v2_ok (F : Nat → Bool) (w : World) : (v2 F w).ok w := ⟨fun _ _ h => vw_cell h, fun _ _ h => h⟩
theorem v2_below {F : Nat → Bool} {w w' : World} (h : Below w.heap.size w w') : Mem2.le (v2 F w) (v2 F w') :=
  ⟨vw_below h, fun a v e => (h.cell (cell_lt e)).trans e⟩
theorem v2_less {F F' : Nat → Bool} {w : World} (h : ∀ b, F' b = true → F b = true) : Mem2.le (v2 F w) (v2 F' w) := ⟨vw_less h, fun _ _ e => e⟩

/-! ### facts on a value -/
structure Pr where
  p : Mem2 → Value → Prop
  mono : ∀ {c c' : Mem2} {v : Value}, Mem2.le c c' → p c v → p c' v
def Pr.top : Pr := ⟨fun _ _ => True, fun _ h => h⟩
def Pr.is (u : Value) : Pr := ⟨fun _ v => v = u, fun _ h => h⟩
def Pr.when (G : Bool) (φ : Pr) : Pr := ⟨fun c v => (G = true → φ.p c v) ∧ (G = false → v = undef), fun h k => ⟨fun g => φ.mono h (k.1 g), k.2⟩⟩
def Ctx : Type := List (Nat × Pr)
def lk : List (Nat × Pr) → Nat → Option Pr
  | [], _ => none
  | (a, φ) :: r, t => bif Nat.beq a t then some φ else lk r t
def upd (Γ : List (Nat × Pr)) (d : Option Tmp) (φ : Pr) : List (Nat × Pr) := match d with | some d => (d, φ) :: Γ | none => Γ
def tmp (a : Act) (t : Nat) : Value := a.tmps.getD t undef
def Sat (Γ : List (Nat × Pr)) (c : Mem2) (a : Act) : Prop := ∀ t φ, lk Γ t = some φ → φ.p c (tmp a t)
theorem Sat.mono {Γ : List (Nat × Pr)} {c c' : Mem2} {a : Act} (h : Sat Γ c a) (hc : Mem2.le c c') : Sat Γ c' a := fun t φ e => φ.mono hc (h t φ e)
def AllLk (Γ : List (Nat × Pr)) : List (Nat × Pr) → Prop
  | [] => True
  | e :: r => lk Γ e.1 = some e.2 ∧ AllLk Γ r
theorem lk_of_all {Γ : List (Nat × Pr)} : ∀ {Δ : List (Nat × Pr)}, AllLk Γ Δ → ∀ t φ, lk Δ t = some φ → lk Γ t = some φ
  | [], _, t, φ, h => by cases h
  | (b, ψ) :: r, h, t, φ, e => by
    unfold lk at e
    cases hb : Nat.beq b t with
    | true =>
      rw [hb] at e
      simp only [cond_true, Option.some.injEq] at e
      have hbt : b = t := Nat.eq_of_beq_eq_true hb
      subst e; subst hbt
      exact h.1
    | false =>
      rw [hb] at e
      exact lk_of_all h.2 t φ e
theorem Sat.keep {Γ Δ : List (Nat × Pr)} {c : Mem2} {a : Act} (h : Sat Γ c a) (hl : AllLk Γ Δ) : Sat Δ c a := fun t φ e => h t φ (lk_of_all hl t φ e)
theorem tmp_put {a : Act} {d t : Nat} {v : Value} (hd : d < a.tmps.size) : tmp (a.put (some d) v) t = if d = t then v else tmp a t := by
  unfold tmp Act.put
  simp only [Array.getD_eq_getD_getElem?, Array.getElem?_setIfInBounds]
  split
  · rename_i h; subst h; simp [hd]
  · rfl
theorem Sat.put {Γ : List (Nat × Pr)} {c : Mem2} {a : Act} {d : Option Tmp} {v : Value} {φ : Pr} (h : Sat Γ c a) (hd : ∀ k, d = some k → k < a.tmps.size) (hv : φ.p c v) : Sat (upd Γ d φ) c (a.put d v) := by
  cases d with
  | none => exact h
  | some d =>
    intro t ψ e
    rw [tmp_put (hd d rfl)]
    unfold upd lk at e
    cases hb : Nat.beq d t with
    | true =>
      rw [hb] at e
      simp only [cond_true, Option.some.injEq] at e
      subst e
      rw [if_pos (Nat.eq_of_beq_eq_true hb)]
      exact hv
    | false =>
      rw [hb] at e
      rw [if_neg (fun hh => by subst hh; simp at hb)]
      exact h t ψ e

/-! ### one operation -/
def Ex (P : Program) (s : Sem Next) (w : World) (K : Value → World → Prop) : Prop :=
  match s.run P w with
  | .ok (.value v) w' => K v w'
  | .ok .skip w' => K undef w'
  | .ok (.enter f args) w' => Calls P f args w' fun e w'' => ∃ v, e = .returned v ∧ K v w''
  | _ => False
theorem wp_of_ex {P : Program} {o : Oper} {a : Act} {w : World} {K : Act → World → Prop} {Q : Exit → Act → World → Prop}
    (h : Ex P (execOp a.eval o) w fun v w' => K (a.put o.dst v) w') : o.wp P a w K Q := by
  unfold Oper.wp
  unfold Ex at h
  generalize (execOp a.eval o).run P w = r at *
  cases r with
  | ok n w' =>
    cases n <;> simp only [Oper.upon] <;> first | exact h | exact h.elim | skip
    exact Calls.mono h (fun e w'' he => by obtain ⟨v, rfl, hk⟩ := he; exact hk)
  | halt x w' => exact h.elim
theorem Ex.mono {P : Program} {s : Sem Next} {w : World} {K K' : Value → World → Prop} (h : Ex P s w K) (hk : ∀ v w', K v w' → K' v w') : Ex P s w K' := by
  unfold Ex at *
  generalize s.run P w = r at *
  cases r with
  | ok n w' =>
    cases n <;> first | exact hk _ _ h | exact h.elim | skip
    exact Calls.mono h (fun e w'' he => by obtain ⟨v, rfl, hk'⟩ := he; exact ⟨v, rfl, hk _ _ hk'⟩)
  | halt x w' => exact h.elim
def plain (op : Op) (ty : TypeId) : Oper := { dst := none, op := op, type := ty, pos := "", after := #[], guard := none }
theorem exec_plain (ρ : Operand → Value) (d : Option Tmp) (op : Op) (ty : TypeId) (ps : String) (af : Array Edge) (g : Option (Nat × Bool)) :
    execOp ρ ⟨d, op, ty, ps, af, g⟩ = execOp ρ (plain op ty) := rfl

/-- 'the operand x has the fact φ'. -/
def Od (Γ : List (Nat × Pr)) (x : Operand) (φ : Pr) : Prop :=
  match x with
  | .tmp t => ∃ ψ, lk Γ t = some ψ ∧ ∀ c v, ψ.p c v → φ.p c v
  | .const v => ∀ c, φ.p c v
  | .global g => ∀ c, φ.p c (.pointer (some ⟨g, 0, none⟩))
  | .func f => ∀ c, φ.p c (.func (.func f) #[] #[])
theorem od {Γ : List (Nat × Pr)} {t : Nat} {φ : Pr} (h : lk Γ t = some φ) : Od Γ (.tmp t) φ := ⟨φ, h, fun _ _ k => k⟩
theorem odw {Γ : List (Nat × Pr)} {t : Nat} {φ : Pr} {G : Bool} (h : lk Γ t = some (φ.when G)) (hG : G = true) : Od Γ (.tmp t) φ := ⟨_, h, fun _ _ k => k.1 hG⟩
theorem odc {Γ : List (Nat × Pr)} {v : Value} {φ : Pr} (h : ∀ c, φ.p c v) : Od Γ (.const v) φ := h
/-- The facts on the operands of an operation, met in a frame. -/
def Met (Γ : List (Nat × Pr)) (xs : List Operand) (c : Mem2) (a : Act) : Prop := ∀ t, .tmp t ∈ xs → ∀ ψ, lk Γ t = some ψ → ψ.p c (tmp a t)
theorem Od.get {Γ : List (Nat × Pr)} {x : Operand} {φ : Pr} {xs : List Operand} {c : Mem2} {a : Act} (h : Od Γ x φ) (hm : Met Γ xs c a) (hx : x ∈ xs) : φ.p c (a.eval x) := by
  cases x with
  | tmp t => obtain ⟨ψ, hl, hk⟩ := h; exact hk _ _ (hm t hx ψ hl)
  | const v => exact h c
  | global g => exact h c
  | func f => exact h c
/-- An operation without a guard: whatever world, it yields a value with the fact φ; what was there stays. -/
def StepP (P : Program) (op : Op) (ty : TypeId) (Γ : List (Nat × Pr)) (φ : Pr) : Prop :=
  ∀ (F : Nat → Bool) (w : World) (a : Act), (∀ b, F b = true → b < w.heap.size) → Met Γ op.operands.toList (v2 F w) a →
    Ex P (execOp a.eval (plain op ty)) w fun v w' => Below w.heap.size w w' ∧ φ.p (v2 F w') v
def looks (ops : Array Oper) (o : Oper) : List Operand :=
  o.op.operands.toList ++ (match o.guard with | some (g, _) => ((ops[g]?).bind (·.dst)).toList.map Operand.tmp | none => [])
def StepG (P : Program) (ops : Array Oper) (o : Oper) (Γ : List (Nat × Pr)) (φ : Pr) : Prop :=
  (∀ cs b, o.op ≠ .select cs b) ∧
  ∀ (F : Nat → Bool) (w : World) (a : Act), (∀ b, F b = true → b < w.heap.size) → Met Γ (looks ops o) (v2 F w) a →
    if Region.wanted o (yielded ops a.tmps) then Ex P (execOp a.eval o) w fun v w' => Below w.heap.size w w' ∧ φ.p (v2 F w') v else φ.p (v2 F w) undef
theorem Met.sub {Γ : List (Nat × Pr)} {xs ys : List Operand} {c : Mem2} {a : Act} (h : Met Γ ys c a) (hs : ∀ x ∈ xs, x ∈ ys) : Met Γ xs c a := fun t ht => h t (hs _ ht)
theorem sg {P : Program} {ops : Array Oper} {d : Option Tmp} {op : Op} {ty : TypeId} {ps : String} {af : Array Edge} {Γ : List (Nat × Pr)} {φ : Pr}
    (h : StepP P op ty Γ φ) (hs : ∀ cs b, op ≠ .select cs b := by intros; nofun) : StepG P ops ⟨d, op, ty, ps, af, none⟩ Γ φ := by
  refine ⟨hs, fun F w a hF hm => ?_⟩
  simp only [Region.wanted, if_true]
  exact h F w a hF (hm.sub fun x hx => by simp [looks, hx])
theorem yielded_of {ops : Array Oper} {a : Act} {j d : Nat} {b : Bool} (hd : (ops[j]?).bind (·.dst) = some d) (hv : tmp a d = .bool b) : yielded ops a.tmps j = some b := by
  unfold yielded
  rw [hd]
  unfold tmp at hv
  rw [Array.getD_eq_getD_getElem?] at hv
  cases h : a.tmps[d]? with
  | none => rw [h] at hv; simp [undef] at hv
  | some u => rw [h] at hv; simp only [Option.getD_some] at hv; subst hv; simp [h]
theorem yielded_undef {ops : Array Oper} {a : Act} {j d : Nat} (hd : (ops[j]?).bind (·.dst) = some d) (hv : tmp a d = undef) : yielded ops a.tmps j = none := by
  unfold yielded
  rw [hd]
  unfold tmp at hv
  rw [Array.getD_eq_getD_getElem?] at hv
  cases h : a.tmps[d]? with
  | none => simp [h]
  | some u => rw [h] at hv; simp only [Option.getD_some] at hv; subst hv; simp [h, undef]
/-- An operation whose guard is a plain test: G: the test came out as wanted. -/
theorem sgg {P : Program} {ops : Array Oper} {d : Option Tmp} {op : Op} {ty : TypeId} {ps : String} {af : Array Edge} {Γ : List (Nat × Pr)} {φ : Pr} {χ : Pr} {j e : Nat} {want g G : Bool}
    (hd : (ops[j]?).bind (·.dst) = some e) (hg : lk Γ e = some χ) (hb : ∀ c v, χ.p c v → v = .bool g) (hG : G = (g == want)) (h : G = true → StepP P op ty Γ φ)
    (hs : ∀ cs b, op ≠ .select cs b := by intros; nofun) : StepG P ops ⟨d, op, ty, ps, af, some (j, want)⟩ Γ (φ.when G) := by
  refine ⟨hs, fun F w a hF hm => ?_⟩
  have hv : tmp a e = .bool g := hb _ _ (hm e (by simp [looks, hd]) _ hg)
  have hy := yielded_of hd hv
  simp only [Region.wanted, hy]
  cases hG' : G with
  | true =>
    have : (some g == some want) = true := by rw [hG] at hG'; simpa using hG'
    rw [if_pos this]
    refine (h hG' F w a hF (hm.sub fun x hx => by simp [looks, hx])).mono fun v w' hk => ⟨hk.1, fun _ => hk.2, fun hh => by simp at hh⟩
  | false =>
    have : ¬ (some g == some want) = true := by rw [hG] at hG'; simpa using hG'
    rw [if_neg this]
    exact ⟨fun hh => by simp at hh, fun _ => rfl⟩
/-- .. and one whose guard is itself guarded. -/
theorem sggw {P : Program} {ops : Array Oper} {d : Option Tmp} {op : Op} {ty : TypeId} {ps : String} {af : Array Edge} {Γ : List (Nat × Pr)} {φ : Pr} {χ : Pr} {j e : Nat} {want g G G' : Bool}
    (hd : (ops[j]?).bind (·.dst) = some e) (hg : lk Γ e = some (χ.when G')) (hb : ∀ c v, χ.p c v → v = .bool g) (hG : G = (G' && (g == want))) (h : G = true → StepP P op ty Γ φ)
    (hs : ∀ cs b, op ≠ .select cs b := by intros; nofun) : StepG P ops ⟨d, op, ty, ps, af, some (j, want)⟩ Γ (φ.when G) := by
  refine ⟨hs, fun F w a hF hm => ?_⟩
  have hv : (χ.when G').p (v2 F w) (tmp a e) := hm e (by simp [looks, hd]) _ hg
  cases hG'' : G' with
  | false =>
    have hy := yielded_undef hd (hv.2 hG'')
    simp only [Region.wanted, hy]
    have : ¬ ((none : Option Bool) == some want) = true := by simp
    rw [if_neg this]
    subst hG; subst hG''
    exact ⟨fun hh => by simp at hh, fun _ => rfl⟩
  | true =>
    have hy := yielded_of hd (hb _ _ (hv.1 hG''))
    simp only [Region.wanted, hy]
    subst hG''
    cases hG' : G with
    | true =>
      have : (some g == some want) = true := by rw [hG] at hG'; simpa using hG'
      rw [if_pos this]
      refine (h hG' F w a hF (hm.sub fun x hx => by simp [looks, hx])).mono fun v w' hk => ⟨hk.1, fun _ => hk.2, fun hh => by simp at hh⟩
    | false =>
      have : ¬ (some g == some want) = true := by rw [hG] at hG'; simpa using hG'
      rw [if_neg this]
      exact ⟨fun hh => by simp at hh, fun _ => rfl⟩

/-! ### a region: the operations in the order of the text -/
def SeqOK (P : Program) (ops : Array Oper) : List Oper → List (Nat × Pr) → List (Nat × Pr) → Prop
  | [], Γ, Γ' => Γ = Γ'
  | o :: r, Γ, Γ' => ∃ φ, StepG P ops o Γ φ ∧ SeqOK P ops r (upd Γ o.dst φ) Γ'
theorem SeqOK.cons {P : Program} {ops : Array Oper} {o : Oper} {r : List Oper} {Γ Γ' : List (Nat × Pr)} {φ : Pr} (h : StepG P ops o Γ φ) (k : SeqOK P ops r (upd Γ o.dst φ) Γ') : SeqOK P ops (o :: r) Γ Γ' := ⟨φ, h, k⟩
theorem SeqOK.nil {P : Program} {ops : Array Oper} {Γ : List (Nat × Pr)} : SeqOK P ops [] Γ Γ := rfl

/-- What a frame and a world are, ahead of an operation and behind it. -/
structure At (n : Nat) (F : Nat → Bool) (Γ : List (Nat × Pr)) (a : Act) (w : World) : Prop where
  size : a.tmps.size = n
  defers : a.defers = []
  own : ∀ b, F b = true → b < w.heap.size
  sat : Sat Γ (v2 F w) a
theorem put_size (a : Act) (d : Option Tmp) (v : Value) : (a.put d v).tmps.size = a.tmps.size := by cases d <;> simp [Act.put]
theorem put_defers' (a : Act) (d : Option Tmp) (v : Value) : (a.put d v).defers = a.defers := by cases d <;> rfl
theorem At.met {n : Nat} {F : Nat → Bool} {Γ : List (Nat × Pr)} {a : Act} {w : World} (h : At n F Γ a w) (xs : List Operand) : Met Γ xs (v2 F w) a := fun t _ ψ e => h.sat t ψ e
theorem At.step {n : Nat} {F : Nat → Bool} {Γ : List (Nat × Pr)} {a : Act} {w w' : World} {d : Option Tmp} {v : Value} {φ : Pr} (h : At n F Γ a w) (hb : Below w.heap.size w w') (hd : ∀ k, d = some k → k < n) (hv : φ.p (v2 F w') v) : At n F (upd Γ d φ) (a.put d v) w' :=
  ⟨(put_size a d v).trans h.size, (put_defers' a d v).trans h.defers, fun b hb' => Nat.lt_of_lt_of_le (h.own b hb') hb.size,
    (h.sat.mono (v2_below hb)).put (fun k hk => by rw [h.size]; exact hd k hk) hv⟩
def dstsIn (n : Nat) (ops : List Oper) : Bool := ops.all fun o => match o.dst with | some d => Nat.blt d n | none => true
theorem dstsIn_cons {n : Nat} {o : Oper} {r : List Oper} (h : dstsIn n (o :: r) = true) : (∀ k, o.dst = some k → k < n) ∧ dstsIn n r = true := by
  unfold dstsIn at *
  rw [List.all_cons, Bool.and_eq_true] at h
  refine ⟨fun k hk => ?_, h.2⟩
  have := h.1
  rw [hk] at this
  simpa [Nat.blt_eq] using this
theorem below_trans' {w w' w'' : World} (h : Below w.heap.size w w') (k : Below w'.heap.size w' w'') : Below w.heap.size w w'' := h.trans (k.mono h.size)
/-- The operations one behind the other. -/
theorem wpList_seq {P : Program} {ops : Array Oper} {Q : Exit → Act → World → Prop} {n : Nat} {F : Nat → Bool} {rest : List Oper} : ∀ {l : List Oper} {Γ Γ' : List (Nat × Pr)} {a : Act} {w : World},
    SeqOK P ops l Γ Γ' → dstsIn n l = true → At n F Γ a w → (∀ a' w', Below w.heap.size w w' → At n F Γ' a' w' → wpList P ops Q rest a' w') → wpList P ops Q (l ++ rest) a w
  | [], Γ, Γ', a, w, hs, _, ha, k => by cases hs; exact k a w (Below.refl _ _) ha
  | o :: r, Γ, Γ', a, w, hs, hd, ha, k => by
    obtain ⟨φ, hst, hr⟩ := hs
    obtain ⟨hd1, hd2⟩ := dstsIn_cons hd
    have hst' := hst.2 F w a ha.own (ha.met _)
    simp only [List.cons_append, wpList]
    split
    · rename_i hw
      rw [if_pos hw] at hst'
      refine .inl (wp_of_ex (hst'.mono fun v w' hk => ?_))
      exact wpList_seq hr hd2 (ha.step hk.1 hd1 hk.2) fun a'' w'' hb ha'' => k a'' w'' (below_trans' hk.1 hb) ha''
    · rename_i hw
      rw [if_neg hw] at hst'
      exact wpList_seq hr hd2 (ha.step (Below.refl _ _) hd1 hst') fun a'' w'' hb ha'' => k a'' w'' hb ha''
end Go.Proofs.Ytkbilbeaedocjaa.Wh
