/-
  What is proved: a small logic for walking Go functions by facts on their slots; nothing is assumed beyond what each theorem states.
  a region whose operations make memory but change none may be walked in the order of its text, whatever order is drawn.
  how data lie in memory as seen (class Enc), for integers, booleans, texts, slices, pairs and what is made of them.
  for each kind of operation, what it yields from the facts on its operands.
  calls by contracts of facts, tuples, function values, made structs and slices; the rules for whole functions.
-/
import Derived.WalkKit
import Derived.Orders
import Derived.Below
import Derived.Deep.Draws
import Derived.KernelRfl
import Derived.Test.YtnnhmgcigoiceaaGreatDoorPrim
import Derived.Shelf.Abstract
import Derived.IntWalk
namespace Go.Proofs.YtnnhmgcigoiceaaGreatDoor.Wh
open Go Go.RowKit

/-! ### what stays: the kit's 'Below', and that draws are not taken back -/
/-- what is minded of draws -/
def dn (_ : World) : Nat := 0
theorem dn_le {w w' : World} (_ : w.drawn ≤ w'.drawn) : dn w ≤ dn w' := Nat.le_refl 0
structure Below (B : Nat) (w w' : World) : Prop where
  os : w'.os = w.os
  tape : w'.tape = w.tape
  output : w'.output = w.output
  size : w.heap.size ≤ w'.heap.size
  block : ∀ k, k < B → w'.heap[k]? = w.heap[k]?
  drawn : dn w ≤ dn w'
theorem Below.kit {B : Nat} {w w' : World} (h : Below B w w') : Go.RowKit.Below B w w' := ⟨h.os, h.tape, h.output, h.size, h.block⟩
theorem Below.refl (B : Nat) (w : World) : Below B w w := ⟨rfl, rfl, rfl, Nat.le_refl _, fun _ _ => rfl, Nat.le_refl _⟩
theorem Below.trans {B : Nat} {a b c : World} (h : Below B a b) (k : Below B b c) : Below B a c :=
  ⟨k.os.trans h.os, k.tape.trans h.tape, k.output.trans h.output, Nat.le_trans h.size k.size, fun i hi => (k.block i hi).trans (h.block i hi), Nat.le_trans h.drawn k.drawn⟩
theorem Below.mono {B B' : Nat} {w w' : World} (h : Below B w w') (hB : B' ≤ B) : Below B' w w' := ⟨h.os, h.tape, h.output, h.size, fun k hk => h.block k (Nat.lt_of_lt_of_le hk hB), h.drawn⟩
theorem Below.drew {B : Nat} {a w : World} (h : Below B a w) : Below B a w.drew := ⟨h.os, h.tape, h.output, h.size, h.block, Nat.le_trans h.drawn (dn_le (Nat.le_succ _))⟩
theorem Below.alloc {B : Nat} {a w : World} (h : Below B a w) (hB : B ≤ w.heap.size) (o : Obj) : Below B a (w.alloc o) :=
  h.trans ⟨rfl, rfl, rfl, by simp, fun k hk => Go.RowKit.Below.heap_alloc _ _ _ (by omega), Nat.le_refl _⟩
theorem Below.grown {B : Nat} {a w w' : World} {row : Option Nat} (h : Below B a w) (hg : w.grownBy w' row) (hd : w.drawn ≤ w'.drawn) (hB : B ≤ w.heap.size) (hr : ∀ k, row = some k → B ≤ k) : Below B a w' :=
  h.trans ⟨hg.os, hg.tape, hg.output, hg.size, fun k hk => hg.block k (by omega) (fun e => by have := hr k e.symm; omega), dn_le hd⟩
theorem Below.cell {B : Nat} {w w' : World} (h : Below B w w') {p : Addr} (hp : p.block < B) : w'.cell? p = w.cell? p := h.kit.cell hp

/-! ### memory as it is seen: cells outside of a set of blocks -/
def Mem : Type := Addr → Option Value
def Mem.le (c c' : Mem) : Prop := ∀ a v, c a = some v → c' a = some v
theorem Mem.le_refl (c : Mem) : Mem.le c c := fun _ _ h => h
theorem Mem.le_trans {a b c : Mem} (h : Mem.le a b) (k : Mem.le b c) : Mem.le a c := fun x v e => k x v (h x v e)
def vw (F : Nat → Bool) (w : World) : Mem := fun a => if F a.block then none else w.cell? a
theorem cell_lt {w : World} {a : Addr} {v : Value} (h : w.cell? a = some v) : a.block < w.heap.size := by
  unfold World.cell? at h
  rcases Nat.lt_or_ge a.block w.heap.size with hl | hl
  · exact hl
  · rw [Array.getElem?_eq_none hl] at h; cases h
theorem vw_below {F : Nat → Bool} {w w' : World} (h : Below w.heap.size w w') : Mem.le (vw F w) (vw F w') := by
  intro a v e
  unfold vw at *
  split at e
  · cases e
  · rename_i hf
    rw [if_neg hf, h.cell (cell_lt e)]
    exact e
theorem vw_less {F F' : Nat → Bool} {w : World} (h : ∀ b, F' b = true → F b = true) : Mem.le (vw F w) (vw F' w) := by
  intro a v e
  unfold vw at *
  split at e
  · cases e
  · rename_i hf
    rw [if_neg (fun hh => hf (h _ hh))]
    exact e
theorem vw_cell {F : Nat → Bool} {w : World} {a : Addr} {v : Value} (h : vw F w a = some v) : w.cell? a = some v := by
  unfold vw at h
  split at h
  · cases h
  · exact h
/-- Two memories: what is seen as written no more, and all that is there at this moment. -/
structure Mem2 where
  c : Mem
  m : Mem
def Mem2.le (x y : Mem2) : Prop := Mem.le x.c y.c ∧ Mem.le x.m y.m
def Mem2.ok (x : Mem2) (w : World) : Prop := Mem.le x.c w.cell? ∧ Mem.le x.m w.cell?
def v2 (F : Nat → Bool) (w : World) : Mem2 := ⟨vw F w, w.cell?⟩
theorem v2_ok (F : Nat → Bool) (w : World) : (v2 F w).ok w := ⟨fun _ _ h => vw_cell h, fun _ _ h => h⟩
theorem v2_below {F : Nat → Bool} {w w' : World} (h : Below w.heap.size w w') : Mem2.le (v2 F w) (v2 F w') :=
  ⟨vw_below h, fun a v e => (h.cell (cell_lt e)).trans e⟩
theorem v2_less {F F' : Nat → Bool} {w : World} (h : ∀ b, F' b = true → F b = true) : Mem2.le (v2 F w) (v2 F' w) := ⟨vw_less h, fun _ _ e => e⟩

/-! ### facts on a value -/
structure Pr where
  p : Mem2 → Value → Prop
  mono : ∀ {c c' : Mem2} {v : Value}, Mem2.le c c' → p c v → p c' v
def Pr.top : Pr := ⟨fun _ _ => True, fun _ h => h⟩
def Pr.is (u : Value) : Pr := ⟨fun _ v => v = u, fun _ h => h⟩
def Pr.when (G : Bool) (φ : Pr) : Pr := ⟨fun c v => (G = true → φ.p c v) ∧ (G = false → v = undef), fun h k => ⟨fun g => φ.mono h (k.1 g), k.2⟩⟩
def lk : List (Nat × Pr) → Nat → Option Pr
  | [], _ => none
  | (a, φ) :: r, t => bif Nat.beq a t then some φ else lk r t
def upd (Γ : List (Nat × Pr)) (d : Option Tmp) (φ : Pr) : List (Nat × Pr) := match d with | some d => (d, φ) :: Γ | none => Γ
def tmp (a : Act) (t : Nat) : Value := a.tmps.getD t undef
def Sat (Γ : List (Nat × Pr)) (c : Mem2) (a : Act) : Prop := ∀ t φ, lk Γ t = some φ → φ.p c (tmp a t)
theorem Sat.mono {Γ : List (Nat × Pr)} {c c' : Mem2} {a : Act} (h : Sat Γ c a) (hc : Mem2.le c c') : Sat Γ c' a := fun t φ e => φ.mono hc (h t φ e)
theorem tmp_put {a : Act} {d t : Nat} {v : Value} (hd : d < a.tmps.size) : tmp (a.put (some d) v) t = if d = t then v else tmp a t := by
  unfold tmp Act.put
  simp only [Array.getD_eq_getD_getElem?, Array.getElem?_setIfInBounds]
  split
  · rename_i h; subst h; simp [hd]
  · rfl
theorem Sat.put {Γ : List (Nat × Pr)} {c : Mem2} {a : Act} {d : Option Tmp} {v : Value} {φ : Pr} (h : Sat Γ c a) (hd : ∀ k, d = some k → k < a.tmps.size) (hv : φ.p c v) : Sat (upd Γ d φ) c (a.put d v) := by
  cases d with
  | none => exact h
  | some d =>
    intro t ψ e
    rw [tmp_put (hd d rfl)]
    unfold upd lk at e
    cases hb : Nat.beq d t with
    | true =>
      rw [hb] at e
      simp only [cond_true, Option.some.injEq] at e
      subst e
      rw [if_pos (Nat.eq_of_beq_eq_true hb)]
      exact hv
    | false =>
      rw [hb] at e
      rw [if_neg (fun hh => by subst hh; simp at hb)]
      exact h t ψ e

/-! ### one operation -/
def Ex (P : Program) (s : Sem Next) (w : World) (K : Value → World → Prop) : Prop :=
  match s.run P w with
  | .ok (.value v) w' => K v w'
  | .ok .skip w' => K undef w'
  | .ok (.enter f args) w' => Calls P f args w' fun e w'' => ∃ v, e = .returned v ∧ K v w''
  | _ => False
theorem wp_of_ex {P : Program} {o : Oper} {a : Act} {w : World} {K : Act → World → Prop} {Q : Exit → Act → World → Prop}
    (h : Ex P (execOp a.eval o) w fun v w' => K (a.put o.dst v) w') : o.wp P a w K Q := by
  unfold Oper.wp
  unfold Ex at h
  generalize (execOp a.eval o).run P w = r at *
  cases r with
  | ok n w' =>
    cases n <;> simp only [Oper.upon] <;> first | exact h | exact h.elim | skip
    exact Calls.mono h (fun e w'' he => by obtain ⟨v, rfl, hk⟩ := he; exact hk)
  | halt x w' => exact h.elim
theorem Ex.mono {P : Program} {s : Sem Next} {w : World} {K K' : Value → World → Prop} (h : Ex P s w K) (hk : ∀ v w', K v w' → K' v w') : Ex P s w K' := by
  unfold Ex at *
  generalize s.run P w = r at *
  cases r with
  | ok n w' =>
    cases n <;> first | exact hk _ _ h | exact h.elim | skip
    exact Calls.mono h (fun e w'' he => by obtain ⟨v, rfl, hk'⟩ := he; exact ⟨v, rfl, hk _ _ hk'⟩)
  | halt x w' => exact h.elim
def plain (op : Op) (ty : TypeId) : Oper := { dst := none, op := op, type := ty, pos := "", after := #[], guard := none }
theorem exec_plain (ρ : Operand → Value) (d : Option Tmp) (op : Op) (ty : TypeId) (ps : String) (af : Array Edge) (g : Option (Nat × Bool)) :
    execOp ρ ⟨d, op, ty, ps, af, g⟩ = execOp ρ (plain op ty) := rfl

/-- 'the operand x has the fact φ'. -/
def Od (Γ : List (Nat × Pr)) (x : Operand) (φ : Pr) : Prop :=
  match x with
  | .tmp t => ∃ ψ, lk Γ t = some ψ ∧ ∀ c v, ψ.p c v → φ.p c v
  | .const v => ∀ c, φ.p c v
  | .global g => ∀ c, φ.p c (.pointer (some ⟨g, 0, none⟩))
  | .func f => ∀ c, φ.p c (.func (.func f) #[] #[])
theorem od {Γ : List (Nat × Pr)} {t : Nat} {φ : Pr} (h : lk Γ t = some φ) : Od Γ (.tmp t) φ := ⟨φ, h, fun _ _ k => k⟩
theorem odw {Γ : List (Nat × Pr)} {t : Nat} {φ : Pr} {G : Bool} (h : lk Γ t = some (φ.when G)) (hG : G = true) : Od Γ (.tmp t) φ := ⟨_, h, fun _ _ k => k.1 hG⟩
theorem odc {Γ : List (Nat × Pr)} {v : Value} {φ : Pr} (h : ∀ c, φ.p c v) : Od Γ (.const v) φ := h
/-- The facts on the operands of an operation, met in a frame. -/
def Met (Γ : List (Nat × Pr)) (xs : List Operand) (c : Mem2) (a : Act) : Prop := ∀ t, .tmp t ∈ xs → ∀ ψ, lk Γ t = some ψ → ψ.p c (tmp a t)
theorem Od.get {Γ : List (Nat × Pr)} {x : Operand} {φ : Pr} {xs : List Operand} {c : Mem2} {a : Act} (h : Od Γ x φ) (hm : Met Γ xs c a) (hx : x ∈ xs) : φ.p c (a.eval x) := by
  cases x with
  | tmp t => obtain ⟨ψ, hl, hk⟩ := h; exact hk _ _ (hm t hx ψ hl)
  | const v => exact h c
  | global g => exact h c
  | func f => exact h c
/-- An operation without a guard: whatever world, it yields a value with the fact φ; what was there stays. -/
def StepP (P : Program) (op : Op) (ty : TypeId) (Γ : List (Nat × Pr)) (φ : Pr) : Prop :=
  ∀ (F : Nat → Bool) (w : World) (a : Act), (∀ b, F b = true → b < w.heap.size) → Met Γ op.operands.toList (v2 F w) a →
    Ex P (execOp a.eval (plain op ty)) w fun v w' => Below w.heap.size w w' ∧ φ.p (v2 F w') v
def looks (ops : Array Oper) (o : Oper) : List Operand :=
  o.op.operands.toList ++ (match o.guard with | some (g, _) => ((ops[g]?).bind (·.dst)).toList.map Operand.tmp | none => [])
def StepG (P : Program) (ops : Array Oper) (o : Oper) (Γ : List (Nat × Pr)) (φ : Pr) : Prop :=
  (∀ cs b, o.op ≠ .select cs b) ∧
  ∀ (F : Nat → Bool) (w : World) (a : Act), (∀ b, F b = true → b < w.heap.size) → Met Γ (looks ops o) (v2 F w) a →
    if Region.wanted o (yielded ops a.tmps) then Ex P (execOp a.eval o) w fun v w' => Below w.heap.size w w' ∧ φ.p (v2 F w') v else φ.p (v2 F w) undef
theorem Met.sub {Γ : List (Nat × Pr)} {xs ys : List Operand} {c : Mem2} {a : Act} (h : Met Γ ys c a) (hs : ∀ x ∈ xs, x ∈ ys) : Met Γ xs c a := fun t ht => h t (hs _ ht)
theorem sg {P : Program} {ops : Array Oper} {d : Option Tmp} {op : Op} {ty : TypeId} {ps : String} {af : Array Edge} {Γ : List (Nat × Pr)} {φ : Pr}
    (h : StepP P op ty Γ φ) (hs : ∀ cs b, op ≠ .select cs b := by intros; nofun) : StepG P ops ⟨d, op, ty, ps, af, none⟩ Γ φ := by
  refine ⟨hs, fun F w a hF hm => ?_⟩
  simp only [Region.wanted, if_true]
  exact h F w a hF (hm.sub fun x hx => by simp [looks, hx])
theorem yielded_of {ops : Array Oper} {a : Act} {j d : Nat} {b : Bool} (hd : (ops[j]?).bind (·.dst) = some d) (hv : tmp a d = .bool b) : yielded ops a.tmps j = some b := by
  unfold yielded
  rw [hd]
  unfold tmp at hv
  rw [Array.getD_eq_getD_getElem?] at hv
  cases h : a.tmps[d]? with
  | none => rw [h] at hv; simp [undef] at hv
  | some u => rw [h] at hv; simp only [Option.getD_some] at hv; subst hv; simp [h]
theorem yielded_undef {ops : Array Oper} {a : Act} {j d : Nat} (hd : (ops[j]?).bind (·.dst) = some d) (hv : tmp a d = undef) : yielded ops a.tmps j = none := by
  unfold yielded
  rw [hd]
  unfold tmp at hv
  rw [Array.getD_eq_getD_getElem?] at hv
  cases h : a.tmps[d]? with
  | none => simp [h]
  | some u => rw [h] at hv; simp only [Option.getD_some] at hv; subst hv; simp [h, undef]
/-- An operation whose guard is a plain test: G: the test came out as wanted. -/
theorem sgg {P : Program} {ops : Array Oper} {d : Option Tmp} {op : Op} {ty : TypeId} {ps : String} {af : Array Edge} {Γ : List (Nat × Pr)} {φ : Pr} {χ : Pr} {j e : Nat} {want g G : Bool}
    (hd : (ops[j]?).bind (·.dst) = some e) (hg : lk Γ e = some χ) (hb : ∀ c v, χ.p c v → v = .bool g) (hG : G = (g == want)) (h : G = true → StepP P op ty Γ φ)
    (hs : ∀ cs b, op ≠ .select cs b := by intros; nofun) : StepG P ops ⟨d, op, ty, ps, af, some (j, want)⟩ Γ (φ.when G) := by
  refine ⟨hs, fun F w a hF hm => ?_⟩
  have hv : tmp a e = .bool g := hb _ _ (hm e (by simp [looks, hd]) _ hg)
  have hy := yielded_of hd hv
  simp only [Region.wanted, hy]
  cases hG' : G with
  | true =>
    have : (some g == some want) = true := by rw [hG] at hG'; simpa using hG'
    rw [if_pos this]
    refine (h hG' F w a hF (hm.sub fun x hx => by simp [looks, hx])).mono fun v w' hk => ⟨hk.1, fun _ => hk.2, fun hh => by simp at hh⟩
  | false =>
    have : ¬ (some g == some want) = true := by rw [hG] at hG'; simpa using hG'
    rw [if_neg this]
    exact ⟨fun hh => by simp at hh, fun _ => rfl⟩
/-- .. and one whose guard is itself guarded. -/
theorem sggw {P : Program} {ops : Array Oper} {d : Option Tmp} {op : Op} {ty : TypeId} {ps : String} {af : Array Edge} {Γ : List (Nat × Pr)} {φ : Pr} {χ : Pr} {j e : Nat} {want g G G' : Bool}
    (hd : (ops[j]?).bind (·.dst) = some e) (hg : lk Γ e = some (χ.when G')) (hb : ∀ c v, χ.p c v → v = .bool g) (hG : G = (G' && (g == want))) (h : G = true → StepP P op ty Γ φ)
    (hs : ∀ cs b, op ≠ .select cs b := by intros; nofun) : StepG P ops ⟨d, op, ty, ps, af, some (j, want)⟩ Γ (φ.when G) := by
  refine ⟨hs, fun F w a hF hm => ?_⟩
  have hv : (χ.when G').p (v2 F w) (tmp a e) := hm e (by simp [looks, hd]) _ hg
  cases hG'' : G' with
  | false =>
    have hy := yielded_undef hd (hv.2 hG'')
    simp only [Region.wanted, hy]
    have : ¬ ((none : Option Bool) == some want) = true := by simp
    rw [if_neg this]
    subst hG; subst hG''
    exact ⟨fun hh => by simp at hh, fun _ => rfl⟩
  | true =>
    have hy := yielded_of hd (hb _ _ (hv.1 hG''))
    simp only [Region.wanted, hy]
    subst hG''
    cases hG' : G with
    | true =>
      have : (some g == some want) = true := by rw [hG] at hG'; simpa using hG'
      rw [if_pos this]
      refine (h hG' F w a hF (hm.sub fun x hx => by simp [looks, hx])).mono fun v w' hk => ⟨hk.1, fun _ => hk.2, fun hh => by simp at hh⟩
    | false =>
      have : ¬ (some g == some want) = true := by rw [hG] at hG'; simpa using hG'
      rw [if_neg this]
      exact ⟨fun hh => by simp at hh, fun _ => rfl⟩

/-! ### a region: the operations in the order of the text -/
def SeqOK (P : Program) (ops : Array Oper) : List Oper → List (Nat × Pr) → List (Nat × Pr) → Prop
  | [], Γ, Γ' => Γ = Γ'
  | o :: r, Γ, Γ' => ∃ φ, StepG P ops o Γ φ ∧ SeqOK P ops r (upd Γ o.dst φ) Γ'
theorem SeqOK.cons {P : Program} {ops : Array Oper} {o : Oper} {r : List Oper} {Γ Γ' : List (Nat × Pr)} {φ : Pr} (h : StepG P ops o Γ φ) (k : SeqOK P ops r (upd Γ o.dst φ) Γ') : SeqOK P ops (o :: r) Γ Γ' := ⟨φ, h, k⟩
theorem SeqOK.nil {P : Program} {ops : Array Oper} {Γ : List (Nat × Pr)} : SeqOK P ops [] Γ Γ := rfl

/-- What a frame and a world are, ahead of an operation and behind it. -/
structure At (n : Nat) (F : Nat → Bool) (Γ : List (Nat × Pr)) (a : Act) (w : World) : Prop where
  size : a.tmps.size = n
  defers : a.defers = []
  own : ∀ b, F b = true → b < w.heap.size
  sat : Sat Γ (v2 F w) a
theorem put_size (a : Act) (d : Option Tmp) (v : Value) : (a.put d v).tmps.size = a.tmps.size := by cases d <;> simp [Act.put]
theorem put_defers' (a : Act) (d : Option Tmp) (v : Value) : (a.put d v).defers = a.defers := by cases d <;> rfl
theorem At.met {n : Nat} {F : Nat → Bool} {Γ : List (Nat × Pr)} {a : Act} {w : World} (h : At n F Γ a w) (xs : List Operand) : Met Γ xs (v2 F w) a := fun t _ ψ e => h.sat t ψ e
theorem At.step {n : Nat} {F : Nat → Bool} {Γ : List (Nat × Pr)} {a : Act} {w w' : World} {d : Option Tmp} {v : Value} {φ : Pr} (h : At n F Γ a w) (hb : Below w.heap.size w w') (hd : ∀ k, d = some k → k < n) (hv : φ.p (v2 F w') v) : At n F (upd Γ d φ) (a.put d v) w' :=
  ⟨(put_size a d v).trans h.size, (put_defers' a d v).trans h.defers, fun b hb' => Nat.lt_of_lt_of_le (h.own b hb') hb.size,
    (h.sat.mono (v2_below hb)).put (fun k hk => by rw [h.size]; exact hd k hk) hv⟩
def dstsIn (n : Nat) (ops : List Oper) : Bool := ops.all fun o => match o.dst with | some d => Nat.blt d n | none => true
theorem dstsIn_cons {n : Nat} {o : Oper} {r : List Oper} (h : dstsIn n (o :: r) = true) : (∀ k, o.dst = some k → k < n) ∧ dstsIn n r = true := by
  unfold dstsIn at *
  rw [List.all_cons, Bool.and_eq_true] at h
  refine ⟨fun k hk => ?_, h.2⟩
  have := h.1
  rw [hk] at this
  simpa [Nat.blt_eq] using this
theorem below_trans' {w w' w'' : World} (h : Below w.heap.size w w') (k : Below w'.heap.size w' w'') : Below w.heap.size w w'' := h.trans (k.mono h.size)
/-- The operations one behind the other. -/
theorem wpList_seq {P : Program} {ops : Array Oper} {Q : Exit → Act → World → Prop} {n : Nat} {F : Nat → Bool} {rest : List Oper} : ∀ {l : List Oper} {Γ Γ' : List (Nat × Pr)} {a : Act} {w : World},
    SeqOK P ops l Γ Γ' → dstsIn n l = true → At n F Γ a w → (∀ a' w', Below w.heap.size w w' → At n F Γ' a' w' → wpList P ops Q rest a' w') → wpList P ops Q (l ++ rest) a w
  | [], Γ, Γ', a, w, hs, _, ha, k => by cases hs; exact k a w (Below.refl _ _) ha
  | o :: r, Γ, Γ', a, w, hs, hd, ha, k => by
    obtain ⟨φ, hst, hr⟩ := hs
    obtain ⟨hd1, hd2⟩ := dstsIn_cons hd
    have hst' := hst.2 F w a ha.own (ha.met _)
    simp only [List.cons_append, wpList]
    split
    · rename_i hw
      rw [if_pos hw] at hst'
      refine .inl (wp_of_ex (hst'.mono fun v w' hk => ?_))
      exact wpList_seq hr hd2 (ha.step hk.1 hd1 hk.2) fun a'' w'' hb ha'' => k a'' w'' (below_trans' hk.1 hb) ha''
    · rename_i hw
      rw [if_neg hw] at hst'
      exact wpList_seq hr hd2 (ha.step (Below.refl _ _) hd1 hst') fun a'' w'' hb ha'' => k a'' w'' hb ha''
end Go.Proofs.YtnnhmgcigoiceaaGreatDoor.Wh

namespace Go.Proofs.YtnnhmgcigoiceaaGreatDoor.Wh
open Go Go.RowKit

/-! ### which operations must stand ahead of which -/
def mask1 (acc : List Nat) (o : Oper) : Nat := o.after.toList.foldl (fun s e => if Region.binds .any e then s ||| 2 ^ e.on ||| acc.getD e.on 0 else s) 0
def masksFrom : List Oper → List Nat → List Nat
  | [], acc => acc
  | o :: r, acc => masksFrom r (acc ++ [mask1 acc o])
theorem mask_fold (acc : List Nat) (i : Nat) : ∀ (l : List Edge) (s : Nat), (l.foldl (fun s e => if Region.binds .any e then s ||| 2 ^ e.on ||| acc.getD e.on 0 else s) s).testBit i = true →
    s.testBit i = true ∨ ∃ e ∈ l, Region.binds .any e = true ∧ (e.on = i ∨ (acc.getD e.on 0).testBit i = true)
  | [], s, h => .inl h
  | e :: l, s, h => by
    rw [List.foldl_cons] at h
    rcases mask_fold acc i l _ h with h1 | ⟨e', he', hb⟩
    · split at h1
      · rename_i hb
        simp only [Nat.testBit_or, Bool.or_eq_true, Nat.testBit_two_pow, decide_eq_true_eq] at h1
        rcases h1 with (h1 | h1) | h1
        · exact .inl h1
        · exact .inr ⟨e, List.mem_cons_self, hb, .inl h1⟩
        · exact .inr ⟨e, List.mem_cons_self, hb, .inr h1⟩
      · exact .inl h1
    · exact .inr ⟨e', List.mem_cons_of_mem _ he', hb⟩
theorem masks_pre : ∀ (l : List Oper) (acc : List Nat), ∃ r, masksFrom l acc = acc ++ r
  | [], acc => ⟨[], by simp [masksFrom]⟩
  | o :: l, acc => by
    obtain ⟨r, hr⟩ := masks_pre l (acc ++ [mask1 acc o])
    exact ⟨mask1 acc o :: r, by rw [masksFrom, hr, List.append_assoc]; rfl⟩
theorem masks_at : ∀ (l : List Oper) (acc : List Nat) (j : Nat) (o : Oper), l[j]? = some o →
    ∃ p, (∃ r, masksFrom l acc = p ++ mask1 p o :: r) ∧ p.length = acc.length + j
  | [], acc, j, o, h => by simp at h
  | o' :: l, acc, 0, o, h => by
    simp at h; subst h
    obtain ⟨r, hr⟩ := masks_pre l (acc ++ [mask1 acc o'])
    exact ⟨acc, ⟨r, by rw [masksFrom, hr, List.append_assoc]; rfl⟩, by simp⟩
  | o' :: l, acc, j + 1, o, h => by
    obtain ⟨p, hp, hl⟩ := masks_at l (acc ++ [mask1 acc o']) j o (by simpa using h)
    exact ⟨p, hp, by rw [hl]; simp; omega⟩
theorem masks_edge {l : List Oper} {j i : Nat} {o : Oper} (h : l[j]? = some o) (hb : ((masksFrom l []).getD j 0).testBit i = true) :
    ∃ e ∈ o.after.toList, Region.binds .any e = true ∧ (e.on = i ∨ ((masksFrom l []).getD e.on 0).testBit i = true) := by
  obtain ⟨p, ⟨r, hr⟩, hl⟩ := masks_at l [] j o h
  simp only [List.length_nil, Nat.zero_add] at hl
  have hj : (masksFrom l []).getD j 0 = mask1 p o := by
    rw [hr, List.getD_eq_getElem?_getD, ← hl]; simp
  rw [hj] at hb
  rcases mask_fold p i _ _ hb with h0 | ⟨e, he, hbi, hc⟩
  · simp at h0
  · refine ⟨e, he, hbi, hc.imp id fun hc => ?_⟩
    rw [hr]
    rw [List.getD_eq_getElem?_getD] at hc ⊢
    by_cases hlt : e.on < p.length
    · rw [List.getElem?_append_left hlt]; exact hc
    · rw [List.getElem?_eq_none (by omega)] at hc; simp at hc
def looksT (ops : Array Oper) (o : Oper) : List Nat := (looks ops o).filterMap fun | .tmp t => some t | _ => none
theorem mem_looksT {ops : Array Oper} {o : Oper} {t : Nat} (h : Operand.tmp t ∈ looks ops o) : t ∈ looksT ops o := List.mem_filterMap.2 ⟨_, h, rfl⟩
def clash (ops : Array Oper) (x y : Oper) : Bool :=
  (match x.dst with | some d => (looksT ops y).contains d || y.dst == some d | none => false) || (match y.dst with | some d => (looksT ops x).contains d | none => false)
def tempsOK (ops : Array Oper) : Bool :=
  let l := ops.toList
  let M := masksFrom l []
  (List.range l.length).all fun i => (List.range i).all fun j => !clash ops (l.getD i default) (l.getD j default) || (M.getD i 0).testBit j
theorem clash_symm (ops : Array Oper) (x y : Oper) (h : clash ops x y = true) : clash ops y x = true := by
  unfold clash at *
  simp only [Bool.or_eq_true] at *
  rcases h with h | h
  · cases hx : x.dst with
    | none => rw [hx] at h; simp at h
    | some d =>
      rw [hx] at h
      simp only [Bool.or_eq_true] at h
      rcases h with h | h
      · exact .inr (by simpa using h)
      · have hy : y.dst = some d := by simpa using h
        rw [hy]
        exact .inl (by simp)
  · cases hy : y.dst with
    | none => rw [hy] at h; simp at h
    | some d => rw [hy] at h; exact .inl (by simp only [Bool.or_eq_true]; exact .inl h)
theorem tempsOK_at {ops : Array Oper} (h : tempsOK ops = true) {i j : Nat} {x y : Oper} (hx : ops[i]? = some x) (hy : ops[j]? = some y) (hji : j < i) (hc : clash ops x y = true) :
    ((masksFrom ops.toList []).getD i 0).testBit j = true := by
  unfold tempsOK at h
  simp only [List.all_eq_true, List.mem_range] at h
  have hi : i < ops.toList.length := by have := (Array.getElem?_eq_some_iff.1 hx).1; simpa using this
  have := h i hi j hji
  have hx' : ops.toList.getD i default = x := by rw [List.getD_eq_getElem?_getD]; simp [hx]
  have hy' : ops.toList.getD j default = y := by rw [List.getD_eq_getElem?_getD]; simp [hy]
  rw [hx', hy', hc] at this
  simpa using this

/-! ### the facts behind any part of the operations -/
def gam (D : Nat → Bool) : List (Option Tmp × Pr) → Nat → List (Nat × Pr) → List (Nat × Pr)
  | [], _, Γ => Γ
  | (d, φ) :: r, k, Γ => gam D r (k + 1) (if D k then upd Γ d φ else Γ)
theorem lk_upd (Γ : List (Nat × Pr)) (d : Option Tmp) (φ : Pr) (t : Nat) : lk (upd Γ d φ) t = if d = some t then some φ else lk Γ t := by
  cases d with
  | none => simp [upd]
  | some d =>
    simp only [upd, lk]
    by_cases h : d = t
    · subst h; simp
    · have : Nat.beq d t = false := by
        cases hb : Nat.beq d t with
        | false => rfl
        | true => exact absurd (Nat.eq_of_beq_eq_true hb) h
      rw [this]; simp [h]
theorem lk_gam {D D' : Nat → Bool} {t : Nat} : ∀ (es : List (Option Tmp × Pr)) (k : Nat) (Γ Γ' : List (Nat × Pr)), lk Γ t = lk Γ' t →
    (∀ j e, es[j]? = some e → e.1 = some t → D (k + j) = D' (k + j)) → lk (gam D es k Γ) t = lk (gam D' es k Γ') t
  | [], k, Γ, Γ', h, _ => h
  | (d, φ) :: r, k, Γ, Γ', h, hD => by
    simp only [gam]
    refine lk_gam r (k + 1) _ _ ?_ fun j e he ht => by
      have := hD (j + 1) e (by simpa using he) ht
      rwa [show k + 1 + j = k + (j + 1) by omega]
    by_cases hdt : d = some t
    · have := hD 0 (d, φ) (by simp) hdt
      simp only [Nat.add_zero] at this
      rw [this]
      split
      · rw [lk_upd, lk_upd, if_pos hdt, if_pos hdt]
      · exact h
    · have e1 : ∀ (b : Bool) (Δ : List (Nat × Pr)), lk (if b = true then upd Δ d φ else Δ) t = lk Δ t := fun b Δ => by
        cases b
        · rfl
        · simp only [if_true, lk_upd, if_neg hdt]
      rw [e1, e1]; exact h
theorem gam_all {D : Nat → Bool} : ∀ (es : List (Option Tmp × Pr)) (k : Nat) (Γ : List (Nat × Pr)), (∀ j, j < es.length → D (k + j) = true) → gam D es k Γ = es.foldl (fun Γ e => upd Γ e.1 e.2) Γ
  | [], k, Γ, _ => rfl
  | (d, φ) :: r, k, Γ, h => by
    have h0 : D k = true := h 0 (by simp)
    simp only [gam, h0, if_true, List.foldl_cons]
    exact gam_all r (k + 1) _ fun j hj => by have := h (j + 1) (by simp; omega); rwa [show k + (j + 1) = k + 1 + j by omega] at this
theorem gam_none {D : Nat → Bool} : ∀ (es : List (Option Tmp × Pr)) (k : Nat) (Γ : List (Nat × Pr)), (∀ j, j < es.length → D (k + j) = false) → gam D es k Γ = Γ
  | [], k, Γ, _ => rfl
  | (d, φ) :: r, k, Γ, h => by
    have h0 : D k = false := h 0 (by simp)
    simp only [gam, h0, Bool.false_eq_true, if_false]
    exact gam_none r (k + 1) _ fun j hj => by have := h (j + 1) (by simp; omega); rwa [show k + (j + 1) = k + 1 + j by omega] at this
theorem gam_append {D : Nat → Bool} : ∀ (es es' : List (Option Tmp × Pr)) (k : Nat) (Γ : List (Nat × Pr)), gam D (es ++ es') k Γ = gam D es' (k + es.length) (gam D es k Γ)
  | [], es', k, Γ => rfl
  | (d, φ) :: r, es', k, Γ => by
    simp only [List.cons_append, gam]
    rw [gam_append r es']
    simp only [List.length_cons]
    rw [show k + 1 + r.length = k + (r.length + 1) by omega]
/-- 'SeqOK' laid open: a fact for each operation, met at the facts of the text's order. -/
theorem seq_open {P : Program} {ops : Array Oper} : ∀ {l : List Oper} {Γ Γ' : List (Nat × Pr)}, SeqOK P ops l Γ Γ' →
    ∃ es : List (Option Tmp × Pr), es.length = l.length ∧ es.foldl (fun Γ e => upd Γ e.1 e.2) Γ = Γ' ∧
      ∀ i o, l[i]? = some o → ∃ φ, es[i]? = some (o.dst, φ) ∧ StepG P ops o ((es.take i).foldl (fun Γ e => upd Γ e.1 e.2) Γ) φ
  | [], Γ, Γ', h => ⟨[], rfl, h, fun i o ho => by simp at ho⟩
  | o :: r, Γ, Γ', ⟨φ, hst, hr⟩ => by
    obtain ⟨es, hl, hf, hs⟩ := seq_open hr
    refine ⟨(o.dst, φ) :: es, by simp [hl], by simpa using hf, fun i o' ho => ?_⟩
    cases i with
    | zero => simp at ho; subst ho; exact ⟨φ, by simp, by simpa using hst⟩
    | succ i =>
      obtain ⟨ψ, h1, h2⟩ := hs i o' (by simpa using ho)
      exact ⟨ψ, by simpa using h1, by simpa using h2⟩
theorem blt_self (j : Nat) : Nat.blt j j = false := by
  cases h : Nat.blt j j with
  | false => rfl
  | true => rw [Nat.blt_eq] at h; omega
structure Inv (n : Nat) (F : Nat → Bool) (ops : Array Oper) (es : List (Option Tmp × Pr)) (Γ : List (Nat × Pr)) (listed : Array Bool) (a : Act) (w : World) : Prop where
  size : listed.size = ops.size
  closed : ∀ j, listed.getD j false = true → ∀ i, ((masksFrom ops.toList []).getD j 0).testBit i = true → listed.getD i false = true
  at_ : At n F (gam (fun k => listed.getD k false) es 0 Γ) a w
theorem getD_set {l : Array Bool} {i k : Nat} (hi : i < l.size) : (l.setIfInBounds i true).getD k false = (if i = k then true else l.getD k false) := by
  simp only [Array.getD_eq_getD_getElem?, Array.getElem?_setIfInBounds]
  split
  · rename_i h; subst h; simp [hi]
  · rfl
theorem wpAny_inv {P : Program} {ops : Array Oper} {Q : Exit → Act → World → Prop} {n : Nat} {F : Nat → Bool} {es : List (Option Tmp × Pr)} {Γ : List (Nat × Pr)} (hlen : es.length = ops.size)
    (hst : ∀ i o, ops[i]? = some o → ∃ φ, es[i]? = some (o.dst, φ) ∧ StepG P ops o ((es.take i).foldl (fun Γ e => upd Γ e.1 e.2) Γ) φ)
    (ht : tempsOK ops = true) (hd : dstsIn n ops.toList = true) (w0 : World) (hwf : ∀ i o, ops[i]? = some o → ∀ e ∈ o.after.toList, Region.binds .any e = true → e.on < i)
    (k : ∀ a w, Below w0.heap.size w0 w → At n F (es.foldl (fun Γ e => upd Γ e.1 e.2) Γ) a w → Q .normal a w) :
    ∀ (fuel : Nat) (listed : Array Bool) (a : Act) (w : World), Below w0.heap.size w0 w → Inv n F ops es Γ listed a w → (∃ m, listed.toList.count false = m ∧ m ≤ fuel) →
      wpAny P .any ops Q fuel listed a w := by
  -- if nothing is ready, all is done
  have hready : ∀ listed : Array Bool, listed.size = ops.size → Region.ready .any ops listed = [] → ∀ i, i < ops.size → listed.getD i false = true := by
    intro listed hs hr i
    induction i using Nat.strongRecOn with
    | _ i ih =>
      intro hi
      cases hb : listed.getD i false with
      | true => rfl
      | false =>
        exfalso
        have hb' : listed.getD i true = false := by
          rw [Array.getD_eq_getD_getElem?] at hb ⊢
          rw [Array.getElem?_eq_getElem (by omega)] at hb ⊢
          simpa using hb
        have : i ∈ Region.ready .any ops listed := by
          unfold Region.ready
          rw [List.mem_filter]
          refine ⟨List.mem_range.2 hi, ?_⟩
          rw [hb', Array.getElem?_eq_getElem hi]
          simp only [Bool.not_false, Option.map_some, Option.getD_some, Bool.true_and]
          rw [Array.all_eq_true']
          intro e he
          cases hbd : Region.binds .any e with
          | false => simp
          | true =>
            have hlt := hwf i ops[i] (Array.getElem?_eq_getElem hi) e (by simpa using he) hbd
            simp [ih e.on hlt (by omega)]
        rw [hr] at this
        cases this
  have hfin : ∀ (listed : Array Bool) (a : Act) (w : World), Below w0.heap.size w0 w → Inv n F ops es Γ listed a w → Region.ready .any ops listed = [] → Q .normal a w := by
    intro listed a w hb hinv hr
    refine k a w hb ?_
    have := hinv.at_
    rwa [gam_all es 0 Γ (fun j hj => by simpa using hready listed hinv.size hr j (by omega))] at this
  intro fuel
  induction fuel with
  | zero =>
    intro listed a w hb hinv ⟨m, hm, hle⟩
    have h0 : listed.toList.count false = 0 := by omega
    have hall : ∀ i, listed.getD i true = true := by
      intro i
      cases hq : listed.getD i true with
      | true => rfl
      | false =>
        have : false ∈ listed.toList := by
          rw [Array.getD_eq_getD_getElem?] at hq
          cases hl : listed[i]? with
          | none => rw [hl] at hq; simp at hq
          | some b => rw [hl] at hq; simp at hq; subst hq; exact Array.mem_toList_iff.2 (Array.mem_of_getElem? hl)
        exact absurd (List.count_pos_iff.2 this) (by omega)
    have hr : Region.ready .any ops listed = [] := by
      unfold Region.ready
      rw [List.filter_eq_nil_iff]
      intro i _
      simp [hall i]
    exact ⟨hr, hfin listed a w hb hinv hr⟩
  | succ fuel ih =>
    intro listed a w hb hinv ⟨m, hm, hle⟩
    refine ⟨fun hr => hfin listed a w hb hinv hr, fun i hi => ?_⟩
    unfold Region.ready at hi
    rw [List.mem_filter, List.mem_range] at hi
    obtain ⟨hilt, hi⟩ := hi
    rw [Bool.and_eq_true] at hi
    obtain ⟨hun, hpre⟩ := hi
    have hun' : listed[i]? = some false := by
      rw [Array.getD_eq_getD_getElem?] at hun
      have hl : i < listed.size := by rw [hinv.size]; exact hilt
      rw [Array.getElem?_eq_getElem hl] at hun ⊢
      simpa using hun
    have hunf : listed.getD i false = false := by rw [Array.getD_eq_getD_getElem?, hun']; rfl
    have ho : ops[i]? = some ops[i] := Array.getElem?_eq_getElem hilt
    generalize ops[i] = o at ho
    rw [ho] at hpre
    simp only [Option.map_some, Option.getD_some, Array.all_eq_true'] at hpre
    obtain ⟨φ, he, hsg⟩ := hst i o ho
    -- what is ordered
    have hbefore : ∀ (j : Nat) (y : Oper), ops[j]? = some y → clash ops o y = true → (j < i → listed.getD j false = true) ∧ (i < j → listed.getD j false = false) := by
      intro j y hy hc
      refine ⟨fun hji => ?_, fun hij => ?_⟩
      · have hbit := tempsOK_at ht ho hy hji hc
        obtain ⟨e, hea, heb, hec⟩ := masks_edge (l := ops.toList) (by simpa using ho) hbit
        have hl : listed.getD e.on false = true := by
          have := hpre e (by simpa using hea)
          rw [heb] at this
          simpa using this
        rcases hec with rfl | hec
        · exact hl
        · exact hinv.closed _ hl _ hec
      · cases hq : listed.getD j false with
        | false => rfl
        | true =>
          have hbit := tempsOK_at ht hy ho hij (clash_symm ops _ _ hc)
          have := hinv.closed j hq i hbit
          rw [hunf] at this
          cases this
    have hes : ∀ (j : Nat) (e : Option Tmp × Pr), es[j]? = some e → ∃ y : Oper, ops[j]? = some y ∧ e.1 = y.dst := by
      intro j e hej
      have hj : j < ops.size := by rw [← hlen]; exact (List.getElem?_eq_some_iff.1 hej).1
      obtain ⟨ψ, h1, _⟩ := hst j ops[j] (Array.getElem?_eq_getElem hj)
      rw [h1] at hej
      exact ⟨ops[j], Array.getElem?_eq_getElem hj, by cases hej; rfl⟩
    have hgamlt : gam (fun k => Nat.blt k i) es 0 Γ = (es.take i).foldl (fun Γ e => upd Γ e.1 e.2) Γ := by
      conv => lhs; rw [← List.take_append_drop i es, gam_append]
      rw [gam_none _ _ _ (fun j _ => by
        rw [List.length_take, Nat.min_eq_left (by omega)]
        cases hq : Nat.blt (0 + i + j) i with
        | false => rfl
        | true => rw [Nat.blt_eq] at hq; omega)]
      exact gam_all _ _ _ fun j hj => by rw [Nat.blt_eq]; simp at hj ⊢; omega
    have hmet : Met ((es.take i).foldl (fun Γ e => upd Γ e.1 e.2) Γ) (looks ops o) (v2 F w) a := by
      intro t ht' ψ hψ
      refine hinv.at_.sat t ψ ?_
      rw [← hψ, ← hgamlt]
      refine lk_gam es 0 Γ Γ rfl fun j e hej hdt => ?_
      obtain ⟨y, hy, hye⟩ := hes j e hej
      simp only [Nat.zero_add]
      by_cases hji : j = i
      · subst hji; rw [hunf]; exact (blt_self j).symm
      · have hc : clash ops o y = true := by
          unfold clash
          rw [← hye, hdt]
          simp [mem_looksT ht']
        rcases Nat.lt_or_gt_of_ne hji with hlt | hgt
        · rw [(hbefore j y hy hc).1 hlt]; exact (Nat.blt_eq ▸ hlt : Nat.blt j i = true).symm
        · rw [(hbefore j y hy hc).2 hgt]
          cases hq : Nat.blt j i with
          | false => rfl
          | true => rw [Nat.blt_eq] at hq; omega
    have hdst : ∀ k, o.dst = some k → k < n := by
      intro d hdd
      unfold dstsIn at hd
      rw [List.all_eq_true] at hd
      have := hd o (by simpa using Array.mem_of_getElem? ho)
      rw [hdd] at this
      simpa [Nat.blt_eq] using this
    have hnext : ∀ v w', Below w.heap.size w w' → φ.p (v2 F w') v → Inv n F ops es Γ (listed.setIfInBounds i true) (a.put o.dst v) w' := by
      intro v w' hbw hv
      have hil : i < listed.size := by rw [hinv.size]; exact hilt
      have hold := hinv.at_.step (φ := φ) (d := o.dst) (v := v) hbw hdst hv
      refine ⟨by simp [hinv.size], fun j hj q hq => ?_, ⟨hold.size, hold.defers, hold.own, fun t ψ hψ => ?_⟩⟩
      · rw [getD_set hil] at hj ⊢
        split
        · rfl
        · split at hj
          · rename_i hij
            subst hij
            obtain ⟨e, hea, heb, hec⟩ := masks_edge (l := ops.toList) (by simpa using ho) hq
            have hl : listed.getD e.on false = true := by
              have := hpre e (by simpa using hea)
              rw [heb] at this
              simpa using this
            rcases hec with rfl | hec
            · exact hl
            · exact hinv.closed _ hl _ hec
          · exact hinv.closed j hj q hq
      · refine hold.sat t ψ ?_
        rw [← hψ]
        by_cases hdt : o.dst = some t
        · rw [lk_upd, if_pos hdt]
          -- the slot that was written
          have e1 : gam (fun k => Nat.ble k i) es 0 Γ = upd ((es.take i).foldl (fun Γ e => upd Γ e.1 e.2) Γ) o.dst φ := by
            have hsplit : es = es.take i ++ (o.dst, φ) :: es.drop (i + 1) := by
              have h1 := List.take_append_drop i es
              have h2 : es.drop i = (o.dst, φ) :: es.drop (i + 1) := by
                obtain ⟨hlt, hh⟩ := List.getElem?_eq_some_iff.1 he
                rw [List.drop_eq_getElem_cons hlt, hh]
              rw [h2] at h1
              exact h1.symm
            conv => lhs; rw [hsplit, gam_append]
            have hle : (es.take i).length = i := by rw [List.length_take]; omega
            simp only [gam, hle, Nat.zero_add]
            rw [if_pos (by simp)]
            rw [gam_none _ _ _ (fun j _ => by
              cases hq : Nat.ble (i + 1 + j) i with
              | false => rfl
              | true => rw [Nat.ble_eq] at hq; omega)]
            congr 1
            exact gam_all _ _ _ fun j hj => by rw [Nat.ble_eq]; simp at hj ⊢; omega
          have e2 : lk (gam (fun k => Nat.ble k i) es 0 Γ) t = some φ := by rw [e1, lk_upd, if_pos hdt]
          rw [← e2]
          refine lk_gam es 0 Γ Γ rfl fun j e hej hdt' => ?_
          obtain ⟨y, hy, hye⟩ := hes j e hej
          simp only [Nat.zero_add]
          rw [getD_set hil]
          by_cases hji : i = j
          · subst hji; simp
          · rw [if_neg hji]
            have hc : clash ops o y = true := by
              unfold clash
              rw [hdt, ← hye, hdt']
              simp
            rcases Nat.lt_or_gt_of_ne hji with hgt | hlt
            · rw [(hbefore j y hy hc).2 hgt]
              cases hq : Nat.ble j i with
              | false => rfl
              | true => rw [Nat.ble_eq] at hq; omega
            · rw [(hbefore j y hy hc).1 hlt]; exact Nat.ble_eq_true_of_le (Nat.le_of_lt hlt)
        · rw [lk_upd, if_neg hdt]
          refine lk_gam es 0 Γ Γ rfl fun j e hej hdt' => ?_
          obtain ⟨y, hy, hye⟩ := hes j e hej
          simp only [Nat.zero_add]
          rw [getD_set hil]
          by_cases hji : i = j
          · subst hji
            rw [ho] at hy
            cases hy
            rw [hye] at hdt'
            exact absurd hdt' hdt
          · rw [if_neg hji]
    have hcount : ∃ m', (listed.setIfInBounds i true).toList.count false = m' ∧ m' ≤ fuel := by
      refine ⟨_, rfl, ?_⟩
      have hil : i < listed.toList.length := by simp [hinv.size, hilt]
      have hcs : (listed.setIfInBounds i true).toList = listed.toList.set i true := by simp
      rw [hcs]
      have := List.count_set (a := true) (b := false) (l := listed.toList) (i := i) hil
      rw [this]
      have hv : listed.toList[i] = false := by
        have := hun'
        rw [Array.getElem?_eq_getElem (by simpa using hil)] at this
        simpa using this
      have hpos : 0 < listed.toList.count false := List.count_pos_iff.2 (Array.mem_toList_iff.2 (Array.mem_of_getElem? hun'))
      have z1 : (if (listed.toList[i] == false) = true then 1 else 0) = 1 := by rw [hv]; rfl
      have z2 : (if (true == false) = true then 1 else 0) = 0 := rfl
      rw [z1, z2]
      omega
    unfold wpOp
    rw [ho]
    simp only []
    have hx := hsg.2 F w a hinv.at_.own hmet
    split
    · rename_i hw
      rw [if_pos hw] at hx
      exact .inl (wp_of_ex (hx.mono fun v w' hk => ih _ _ _ (below_trans' hb hk.1) (hnext v w' hk.1 hk.2) hcount))
    · rename_i hw
      rw [if_neg hw] at hx
      exact ih _ _ _ hb (hnext undef w (Below.refl _ _) hx) hcount
def edgesOK (ops : Array Oper) : Bool := (List.range ops.size).all fun i => ((ops[i]?).map fun o => o.after.all fun e => !Region.binds .any e || Nat.blt e.on i).getD true
def regionOK (n : Nat) (ops : Array Oper) : Bool := tempsOK ops && edgesOK ops && dstsIn n ops.toList
/-- **A region of operations that change nothing that was there: by the order of its text, whatever order is drawn.** -/
theorem wp_grow {P : Program} (hm : P.follows .mixedOrders = true) {id n : Nat} {ops : Array Oper} {draw : Bool} {Q : Exit → Act → World → Prop} {F : Nat → Bool} {Γ Γ' : List (Nat × Pr)} {a : Act} {w : World}
    (hok : regionOK n ops = true) (hs : SeqOK P ops ops.toList Γ Γ') (ha : At n F Γ a w) (k : ∀ a' w', Below w.heap.size w w' → At n F Γ' a' w' → Q .normal a' w') : (Code.region id ops draw).wp P Q a w := by
  unfold regionOK at hok
  rw [Bool.and_eq_true, Bool.and_eq_true] at hok
  obtain ⟨⟨ht, he⟩, hd⟩ := hok
  cases draw with
  | false =>
    refine wp_region_list ?_
    have := wpList_seq (P := P) (ops := ops) (Q := Q) (rest := []) hs hd ha (fun a' w' hb ha' => by unfold wpList; exact k a' w' hb ha')
    simpa using this
  | true =>
    refine wp_region_any hm ?_
    obtain ⟨es, hl, hf, hst⟩ := seq_open hs
    subst hf
    have hwf : ∀ i o, ops[i]? = some o → ∀ e ∈ o.after.toList, Region.binds .any e = true → e.on < i := by
      intro i o ho e hea heb
      unfold edgesOK at he
      rw [List.all_eq_true] at he
      have := he i (List.mem_range.2 (Array.getElem?_eq_some_iff.1 ho).1)
      rw [ho] at this
      simp only [Option.map_some, Option.getD_some, Array.all_eq_true'] at this
      have := this e (by simpa using hea)
      rw [heb] at this
      simpa [Nat.blt_eq] using this
    have h0 : Below w.heap.size w { w with drawn := w.drawn + 1 } := (Below.refl _ _).drew
    refine wpAny_inv (n := n) (F := F) (es := es) (Γ := Γ) (by simpa using hl) (fun i o ho => hst i o (by simpa using ho)) ht hd w hwf k ops.size _ a _ h0 ⟨by simp, fun j hj => ?_, ?_⟩ ⟨_, rfl, ?_⟩
    · simp [Array.getD_eq_getD_getElem?, Array.getElem?_replicate] at hj
      split at hj <;> simp at hj
    · rw [gam_none es 0 Γ (fun j _ => by simp [Array.getD_eq_getD_getElem?, Array.getElem?_replicate]; split <;> rfl)]
      exact ⟨ha.size, ha.defers, ha.own, ha.sat⟩
    · exact Nat.le_trans (List.count_le_length) (by simp)
end Go.Proofs.YtnnhmgcigoiceaaGreatDoor.Wh

namespace Go.Proofs.YtnnhmgcigoiceaaGreatDoor.Wh
open Go Go.RowKit

class Enc (α : Type) where
  size : Nat
  agg : Bool
  rep : Mem → List Value → α → Prop
  len : ∀ {c : Mem} {vs : List Value} {x : α}, rep c vs x → vs.length = size
  mono : ∀ {c c' : Mem} {vs : List Value} {x : α}, Mem.le c c' → rep c vs x → rep c' vs x
  cell : ∀ {c : Mem} {vs : List Value} {x : α}, rep c vs x → ∀ u ∈ vs, u.oneCell' = true
  one : agg = false → size = 1
def rep1 {α : Type} (val : Mem → Value → α → Prop) (c : Mem) (vs : List Value) (x : α) : Prop := match vs with | [v] => val c v x | _ => False
theorem rep1_out {α : Type} {val : Mem → Value → α → Prop} {c : Mem} {vs : List Value} {x : α} (h : rep1 val c vs x) : ∃ v, vs = [v] ∧ val c v x := by
  match vs, h with
  | [v], h => exact ⟨v, rfl, h⟩
@[reducible] def Enc.single {α : Type} (val : Mem → Value → α → Prop) (mono : ∀ {c c' : Mem} {v : Value} {x : α}, Mem.le c c' → val c v x → val c' v x) (cell : ∀ {c : Mem} {v : Value} {x : α}, val c v x → v.oneCell' = true) : Enc α where
  size := 1
  agg := false
  rep := rep1 val
  len h := by obtain ⟨v, rfl, _⟩ := rep1_out h; rfl
  mono hc h := by obtain ⟨v, rfl, hv⟩ := rep1_out h; exact mono hc hv
  cell h := by obtain ⟨v, rfl, hv⟩ := rep1_out h; intro u hu; simp at hu; subst hu; exact cell hv
  one _ := rfl
instance : Enc Int := Enc.single (fun _ v n => v = .int .i64 n) (fun _ h => h) (fun h => by subst h; rfl)
instance : Enc Bool := Enc.single (fun _ v b => v = .bool b) (fun _ h => h) (fun h => by subst h; rfl)
instance : Enc ByteArray := Enc.single (fun _ v s => v = .string s) (fun _ h => h) (fun h => by subst h; rfl)
/-- The value of a variable of the type. -/
def val {α : Type} [Enc α] (c : Mem) (v : Value) (x : α) : Prop := match Enc.agg α with | false => Enc.rep c [v] x | true => ∃ vs, v = .agg vs.toArray ∧ Enc.rep c vs x
theorem val_mono {α : Type} [Enc α] {c c' : Mem} {v : Value} {x : α} (hc : Mem.le c c') (h : val c v x) : val c' v x := by
  unfold val at *
  split at h
  · exact Enc.mono hc h
  · obtain ⟨vs, hv, hr⟩ := h; exact ⟨vs, hv, Enc.mono hc hr⟩
theorem val_cells {α : Type} [Enc α] {c : Mem} {v : Value} {x : α} (h : val c v x) : Enc.rep c v.cells.toList x := by
  unfold val at h
  split at h
  · have hc := Enc.cell h v (by simp)
    cases v <;> first | exact h | cases hc
  · obtain ⟨vs, rfl, hr⟩ := h; simpa [Value.cells] using hr
def isV {α : Type} [Enc α] (x : α) : Pr := ⟨fun c v => val c.c v x, fun hc h => val_mono hc.1 h⟩
/-- Cells that hold a datum. -/
def Holds {α : Type} [Enc α] (c : Mem) (b off : Nat) (x : α) : Prop := ∃ vs, Enc.rep c vs x ∧ ∀ j v, vs[j]? = some v → c ⟨b, off + j, none⟩ = some v
theorem Holds.mono {α : Type} [Enc α] {c c' : Mem} {b off : Nat} {x : α} (hc : Mem.le c c') (h : Holds c b off x) : Holds c' b off x := by
  obtain ⟨vs, hr, hv⟩ := h
  exact ⟨vs, Enc.mono hc hr, fun j v e => hc _ _ (hv j v e)⟩
/-- A pointer to cells that hold a datum (and are written no more). -/
def isA {α : Type} [Enc α] (x : α) : Pr := ⟨fun c v => ∃ b off, v = .pointer (some ⟨b, off, none⟩) ∧ Holds c.c b off x, fun hc ⟨b, off, hv, hh⟩ => ⟨b, off, hv, hh.mono hc.1⟩⟩
def slice {α : Type} [Enc α] (c : Mem) (v : Value) (xs : List α) : Prop :=
  (∃ a cap, v = .slice a 0 cap ∧ cap ≤ maxLen ∧ xs = []) ∨
  ∃ b off cap, v = .slice (some ⟨b, off, none⟩) xs.length cap ∧ xs.length ≤ cap ∧ cap ≤ maxLen ∧ ∀ i (h : i < xs.length), Holds c b (off + i * Enc.size α) xs[i]
theorem slice_len {α : Type} [Enc α] {c : Mem} {v : Value} {xs : List α} (h : slice c v xs) : ∃ a cap, v = .slice a xs.length cap ∧ xs.length ≤ cap ∧ cap ≤ maxLen := by
  rcases h with ⟨a, cap, hv, hc, rfl⟩ | ⟨b, off, cap, hv, h1, h2, _⟩
  · exact ⟨a, cap, hv, Nat.zero_le _, hc⟩
  · exact ⟨_, cap, hv, h1, h2⟩
theorem slice_mono {α : Type} [Enc α] {c c' : Mem} {v : Value} {xs : List α} (hc : Mem.le c c') (h : slice c v xs) : slice c' v xs := by
  rcases h with h | ⟨b, off, cap, hv, h1, h2, h3⟩
  · exact .inl h
  · exact .inr ⟨b, off, cap, hv, h1, h2, fun i hi => (h3 i hi).mono hc⟩
instance {α : Type} [Enc α] : Enc (List α) := Enc.single slice (fun hc h => slice_mono hc h) (fun h => by obtain ⟨a, cap, rfl, _⟩ := slice_len h; rfl)
instance {α β : Type} [Enc α] [Enc β] : Enc (α × β) where
  size := Enc.size α + Enc.size β
  agg := true
  rep c vs p := ∃ v1 v2, vs = v1 ++ v2 ∧ Enc.rep c v1 p.1 ∧ Enc.rep c v2 p.2
  len h := by obtain ⟨v1, v2, rfl, h1, h2⟩ := h; rw [List.length_append, Enc.len h1, Enc.len h2]
  mono hc h := by obtain ⟨v1, v2, rfl, h1, h2⟩ := h; exact ⟨v1, v2, rfl, Enc.mono hc h1, Enc.mono hc h2⟩
  cell h := by
    obtain ⟨v1, v2, rfl, h1, h2⟩ := h
    intro u hu
    rcases List.mem_append.1 hu with hu | hu
    · exact Enc.cell h1 u hu
    · exact Enc.cell h2 u hu
  one h := by cases h
instance : Enc Unit where
  size := 0
  agg := true
  rep _ vs _ := vs = []
  len h := by subst h; rfl
  mono _ h := h
  cell h := by subst h; intro u hu; simp at hu
  one h := by cases h
theorem rep_fst {α β : Type} [Enc α] [Enc β] {c : Mem} {vs : List Value} {p : α × β} (h : Enc.rep c vs p) : Enc.rep c (vs.take (Enc.size α)) p.1 := by
  obtain ⟨v1, v2, rfl, h1, _⟩ := h
  rw [← Enc.len h1, List.take_left]; exact h1
theorem rep_snd {α β : Type} [Enc α] [Enc β] {c : Mem} {vs : List Value} {p : α × β} (h : Enc.rep c vs p) : Enc.rep c (vs.drop (Enc.size α)) p.2 := by
  obtain ⟨v1, v2, rfl, h1, h2⟩ := h
  rw [← Enc.len h1, List.drop_left]; exact h2
theorem rep_all {α : Type} [Enc α] {c : Mem} {vs : List Value} {x : α} (h : Enc.rep c vs x) : Enc.rep c (vs.take (Enc.size α)) x := by
  rw [List.take_of_length_le (by rw [Enc.len h]; exact Nat.le_refl _)]; exact h
/-! ### types of the program -/
def aggD : TypeDesc → Bool | .struct _ | .array _ _ => true | _ => false
structure TyP (P : Program) (T : TypeId) (α : Type) [Enc α] : Prop where
  desc : ∃ d, P.underlying T = some d ∧ aggD d = Enc.agg α
  info : ∃ i, P.info? T = some i ∧ i.size = Enc.size α
theorem TyP.mk' {P : Program} {T : TypeId} {α : Type} [Enc α] {d : TypeDesc} (h : P.underlying T = some d) (hd : aggD d = Enc.agg α) (hi : (P.info? T).map (·.size) = some (Enc.size α)) : TyP P T α := by
  cases h' : P.info? T with
  | none => rw [h'] at hi; cases hi
  | some i => rw [h'] at hi; exact ⟨⟨d, h, hd⟩, ⟨i, h', by simpa using hi⟩⟩
theorem TyP.isAgg {P : Program} {T : TypeId} {α : Type} [Enc α] (h : TyP P T α) (w : World) : (isAgg T).run P w = .ok (Enc.agg α) w := by
  obtain ⟨d, hd, ha⟩ := h.desc
  rw [← ha]
  cases d <;> simp [Go.isAgg, run_underlying hd, aggD]
theorem TyP.sizeOf {P : Program} {T : TypeId} {α : Type} [Enc α] (h : TyP P T α) (w : World) : (sizeOf T).run P w = .ok (Enc.size α) w := by
  obtain ⟨i, hi, hs⟩ := h.info
  simp [Go.sizeOf, typeInfo, hi, hs]
/-- A slice type, its elements. -/
structure SlP (P : Program) (T E : TypeId) (α : Type) [Enc α] : Prop where
  desc : P.underlying T = some (.slice E)
  elem : TyP P E α
theorem run_load_holds {P : Program} {T : TypeId} {α : Type} [Enc α] (hT : TyP P T α) {c : Mem} {w : World} (hc : Mem.le c w.cell?) {b off : Nat} {x : α} (h : Holds c b off x) :
    ∃ v, (loadVar T ⟨b, off, none⟩).run P w = .ok v w ∧ val c v x := by
  obtain ⟨vs, hr, hv⟩ := h
  have hl := Enc.len hr
  unfold loadVar
  simp only [Sem.run_bind, hT.isAgg w, Result.andThen]
  cases ha : Enc.agg α with
  | false =>
    have h1 := Enc.one (α := α) ha
    rw [h1] at hl
    obtain ⟨v, rfl⟩ : ∃ v, vs = [v] := by
      match vs, hl with
      | [v], _ => exact ⟨v, rfl⟩
    refine ⟨v, ?_, ?_⟩
    · have := hc _ _ (hv 0 v rfl)
      simp at this
      simp [this]
    · unfold val; rw [ha]; exact hr
  | true =>
    refine ⟨.agg vs.toArray, ?_, ?_⟩
    · have := run_loadCells_list (P := P) w ⟨b, off, none⟩ vs (fun j v e => by rw [Addr.add_lit]; exact hc _ _ (hv j v e))
      rw [hl] at this
      simp [hT.sizeOf w, this]
    · unfold val; rw [ha]; exact ⟨vs, rfl, hr⟩
end Go.Proofs.YtnnhmgcigoiceaaGreatDoor.Wh

namespace Go.Proofs.YtnnhmgcigoiceaaGreatDoor.Wh
open Go Go.RowKit
section
variable {P : Program} {Γ : List (Nat × Pr)} {ty : TypeId}

theorem step_pure {op : Op} {φ : Pr} (h : ∀ (c : Mem2) (w : World) (a : Act), c.ok w → Met Γ op.operands.toList c a → ∃ v, (execOp a.eval (plain op ty)).run P w = .ok (.value v) w ∧ φ.p c v) : StepP P op ty Γ φ := by
  intro F w a hF hm
  obtain ⟨v, hr, hp⟩ := h (v2 F w) w a (v2_ok F w) hm
  unfold Ex
  rw [hr]
  exact ⟨Below.refl _ _, hp⟩
theorem sp_move {x : Operand} {φ : Pr} (hx : Od Γ x φ) : StepP P (.move x) ty Γ φ :=
  step_pure fun c w a hc hm => ⟨a.eval x, by simp [execOp, plain], hx.get hm (by simp [Op.operands])⟩
theorem sp_assign {x : Operand} {φ : Pr} (hx : Od Γ x φ) : StepP P (.assign x) ty Γ φ :=
  step_pure fun c w a hc hm => ⟨a.eval x, by simp [execOp, plain], hx.get hm (by simp [Op.operands])⟩

/-! ### numbers -/
theorem odi {n : Int} : Od Γ (.const (.int .i64 n)) (isV n) := fun _ => rfl
theorem odb {b : Bool} : Od Γ (.const (.bool b)) (isV b) := fun _ => rfl
theorem ods {s : ByteArray} : Od Γ (.const (.string s)) (isV s) := fun _ => rfl
theorem odnil {α : Type} [Enc α] : Od Γ (.const (.slice none 0 0)) (isV ([] : List α)) := fun _ => .inl ⟨none, 0, rfl, Nat.zero_le _, rfl⟩
theorem get_int {x : Operand} {n : Int} {xs : List Operand} {c : Mem2} {a : Act} (hx : Od Γ x (isV n)) (hm : Met Γ xs c a) (h : x ∈ xs) : a.eval x = .int .i64 n := hx.get hm h
theorem get_bool {x : Operand} {n : Bool} {xs : List Operand} {c : Mem2} {a : Act} (hx : Od Γ x (isV n)) (hm : Met Γ xs c a) (h : x ∈ xs) : a.eval x = .bool n := hx.get hm h
theorem bin_int {x y : Operand} {T T' : TypeId} {bop : BinOp} {m n : Int} {v : Value} {φ : Pr} (hx : Od Γ x (isV m)) (hy : Od Γ y (isV n))
    (hr : ∀ w, (binOp bop T (.int .i64 m) (.int .i64 n)).run P w = .ok v w) (hg : bop = bop) (hv : ∀ c, φ.p c v) : StepP P (.binOp bop T x y T') ty Γ φ :=
  step_pure fun c w a hc hm => by
    have h1 := get_int hx hm (by simp [Op.operands])
    have h2 := get_int hy hm (by simp [Op.operands])
    refine ⟨v, ?_, hv c⟩
    simp only [execOp, plain, h1, h2]
    have he : (eqGuard bop T x y (.int .i64 m) (.int .i64 n)).run P w = .ok () w := by
      unfold eqGuard
      split <;> simp
    simp only [Sem.run_bind, he, Result.andThen, hr w, Sem.run_pure]
section
variable {x y : Operand} {T T' : TypeId} {m n : Int} (hx : Od Γ x (isV m)) (hy : Od Γ y (isV n))
include hx hy
theorem sp_add : StepP P (.binOp .add T x y T') ty Γ (isV (wr (m + n))) := bin_int hx hy (v := .int .i64 (wr (m + n))) (fun w => by simp [binOp, Op.intArith, wr]) rfl (fun _ => rfl)
theorem sp_sub : StepP P (.binOp .sub T x y T') ty Γ (isV (wr (m - n))) := bin_int hx hy (v := .int .i64 (wr (m - n))) (fun w => by simp [binOp, Op.intArith, wr]) rfl (fun _ => rfl)
theorem sp_mul : StepP P (.binOp .mul T x y T') ty Γ (isV (wr (m * n))) := bin_int hx hy (v := .int .i64 (wr (m * n))) (fun w => by simp [binOp, Op.intArith, wr]) rfl (fun _ => rfl)
theorem sp_lss : StepP P (.binOp .lss T x y T') ty Γ (isV (decide (m < n))) := bin_int hx hy (v := .bool (decide (m < n))) (fun w => by simp [binOp, Op.intCmp]) rfl (fun _ => rfl)
theorem sp_leq : StepP P (.binOp .leq T x y T') ty Γ (isV (decide (m ≤ n))) := bin_int hx hy (v := .bool (decide (m ≤ n))) (fun w => by simp [binOp, Op.intCmp]) rfl (fun _ => rfl)
theorem sp_gtr : StepP P (.binOp .gtr T x y T') ty Γ (isV (decide (n < m))) := bin_int hx hy (v := .bool (decide (n < m))) (fun w => by simp [binOp, Op.intCmp]) rfl (fun _ => rfl)
theorem sp_geq : StepP P (.binOp .geq T x y T') ty Γ (isV (decide (n ≤ m))) := bin_int hx hy (v := .bool (decide (n ≤ m))) (fun w => by simp [binOp, Op.intCmp]) rfl (fun _ => rfl)
theorem sp_eql : StepP P (.binOp .eql T x y T') ty Γ (isV (m == n)) := bin_int hx hy (v := .bool (m == n)) (fun w => by simp [binOp, Op.intCmp]) rfl (fun _ => rfl)
theorem sp_neq : StepP P (.binOp .neq T x y T') ty Γ (isV (m != n)) := bin_int hx hy (v := .bool (m != n)) (fun w => by simp [binOp, Op.intCmp]) rfl (fun _ => rfl)
theorem sp_min : StepP P (.call { callee := .builtin .min, args := #[x, y], argTypes := #[T, T'] }) ty Γ (isV (imin m n)) :=
  step_pure fun c w a hc hm => by
    have h1 := get_int hx hm (by simp [Op.operands, Call.operands])
    have h2 := get_int hy hm (by simp [Op.operands, Call.operands])
    refine ⟨.int .i64 (imin m n), ?_, rfl⟩
    simp [execOp, plain, resolve, invoke, builtin, Builtin.min_, Builtin.min2, h1, h2, imin]
theorem sp_max : StepP P (.call { callee := .builtin .max, args := #[x, y], argTypes := #[T, T'] }) ty Γ (isV (imax m n)) :=
  step_pure fun c w a hc hm => by
    have h1 := get_int hx hm (by simp [Op.operands, Call.operands])
    have h2 := get_int hy hm (by simp [Op.operands, Call.operands])
    refine ⟨.int .i64 (imax m n), ?_, rfl⟩
    simp [execOp, plain, resolve, invoke, builtin, Builtin.max_, Builtin.max2, h1, h2, imax]
end
theorem sp_neg {x : Operand} {T : TypeId} {n : Int} (hx : Od Γ x (isV n)) : StepP P (.unOp .neg T x) ty Γ (isV (wr (0 - n))) :=
  step_pure fun c w a hc hm => by
    have h1 := get_int hx hm (by simp [Op.operands])
    exact ⟨.int .i64 (wr (0 - n)), by simp [execOp, plain, h1, Op.unary, Op.intArith, wr], rfl⟩
theorem sp_not {x : Operand} {T : TypeId} {b : Bool} (hx : Od Γ x (isV b)) : StepP P (.unOp .not T x) ty Γ (isV (!b)) :=
  step_pure fun c w a hc hm => by
    have h1 := get_bool hx hm (by simp [Op.operands])
    exact ⟨.bool (!b), by simp [execOp, plain, h1, Op.unary], rfl⟩
/-- 'g && e' -/
theorem sp_pickAnd {x y : Operand} {g e : Bool} (hx : Od Γ x (isV g)) (hy : g = true → Od Γ y (isV e)) : StepP P (.pick x y (.const (.bool false))) ty Γ (isV (g && e)) :=
  step_pure fun c w a hc hm => by
    have h1 := get_bool hx hm (by simp [Op.operands])
    refine ⟨.bool (g && e), ?_, rfl⟩
    cases hg : g with
    | true =>
      have h2 := get_bool (hy hg) hm (by simp [Op.operands])
      simp [execOp, plain, h1, hg, asBool, h2]
    | false =>
      have hk : a.eval (.const (.bool false)) = .bool false := rfl
      simp [execOp, plain, h1, hg, asBool, hk]
/-- 'g || e' -/
theorem sp_pickOr {x y : Operand} {g e : Bool} (hx : Od Γ x (isV g)) (hy : g = false → Od Γ y (isV e)) : StepP P (.pick x (.const (.bool true)) y) ty Γ (isV (g || e)) :=
  step_pure fun c w a hc hm => by
    have h1 := get_bool hx hm (by simp [Op.operands])
    refine ⟨.bool (g || e), ?_, rfl⟩
    cases hg : g with
    | false =>
      have h2 := get_bool (hy hg) hm (by simp [Op.operands])
      simp [execOp, plain, h1, hg, asBool, h2]
    | true =>
      have hk : a.eval (.const (.bool true)) = .bool true := rfl
      simp [execOp, plain, h1, hg, asBool, hk]
/-! ### memory that is read -/
theorem sp_load {α : Type} [Enc α] {x : Operand} {T : TypeId} {d : α} (hT : TyP P T α) (hx : Od Γ x (isA d)) : StepP P (.load T x) ty Γ (isV d) :=
  step_pure fun c w a hc hm => by
    obtain ⟨b, off, hv, hh⟩ := hx.get hm (by simp [Op.operands])
    obtain ⟨v, hr, hval⟩ := run_load_holds hT hc.1 hh
    exact ⟨v, by simp [execOp, plain, hv, Instr.loadAt, Instr.sureAddr, hr], hval⟩
/-- A field of a struct: where it lies. -/
structure FieldP (P : Program) (T : TypeId) (k : Nat) {S α : Type} [Enc S] [Enc α] (f : S → α) : Prop where
  out : ∃ fs fd i, P.underlying T = some (.struct fs) ∧ fs[k]? = some fd ∧ P.info? fd.type = some i ∧ i.size = Enc.size α ∧ i.size ≠ 0 ∧
    (∀ (c : Mem) (vs : List Value) (x : S), Enc.rep c vs x → Enc.rep c ((vs.drop fd.offset).take (Enc.size α)) (f x))
theorem FieldP.mk' {P : Program} {T : TypeId} {k : Nat} {S α : Type} [Enc S] [Enc α] {f : S → α} {fs : Array Field} {fd : Field} (h1 : P.underlying T = some (.struct fs)) (h2 : fs[k]? = some fd)
    (h3 : (P.info? fd.type).map (·.size) = some (Enc.size α)) (h4 : Nat.beq (Enc.size α) 0 = false) (h5 : ∀ (c : Mem) (vs : List Value) (x : S), Enc.rep c vs x → Enc.rep c ((vs.drop fd.offset).take (Enc.size α)) (f x)) : FieldP P T k f := by
  cases h : P.info? fd.type with
  | none => rw [h] at h3; cases h3
  | some i =>
    rw [h] at h3
    have h3 : i.size = Enc.size α := by simpa using h3
    exact ⟨fs, fd, i, h1, h2, h, h3, by rw [h3]; exact Nat.ne_of_beq_eq_false h4, h5⟩
theorem sp_fieldAddr {S α : Type} [Enc S] [Enc α] {x : Operand} {T : TypeId} {k : Nat} {f : S → α} {d : S} (hf : FieldP P T k f) (hx : Od Γ x (isA d)) : StepP P (.fieldAddr T x k) ty Γ (isA (f d)) :=
  step_pure fun c w a hc hm => by
    obtain ⟨b, off, hv, vs, hr, hh⟩ := hx.get hm (by simp [Op.operands])
    obtain ⟨fs, fd, i, h1, h2, h3, h4, h5, h6⟩ := hf.out
    refine ⟨.pointer (some ⟨b, off + fd.offset, none⟩), ?_, b, off + fd.offset, rfl, _, h6 c.c vs d hr, fun j v e => ?_⟩
    · simp [execOp, plain, hv, Instr.fieldAt, run_underlying h1, h2, Instr.sureAddr, fieldPlace, Go.sizeOf, typeInfo, h3, h5, Addr.add_lit]
    · rw [List.getElem?_take] at e
      split at e
      · rw [List.getElem?_drop] at e
        have := hh _ _ e
        rw [Nat.add_assoc]; exact this
      · cases e
theorem idx_some {α : Type} {xs : List α} {k : Int} {y : α} (h : idx xs k = some y) : 0 ≤ k ∧ ∃ (hlt : k.toNat < xs.length), xs[k.toNat] = y := by
  unfold idx at h
  split at h
  · cases h
  · obtain ⟨hlt, he⟩ := List.getElem?_eq_some_iff.1 h
    exact ⟨by omega, hlt, he⟩
theorem sp_indexAddr {α : Type} [Enc α] {x k : Operand} {T E : TypeId} {xs : List α} {i : Int} {y : α} (hT : SlP P T E α) (hx : Od Γ x (isV xs)) (hk : Od Γ k (isV i)) (h : idx xs i = some y) : StepP P (.indexAddr T x k) ty Γ (isA y) :=
  step_pure fun c w a hc hm => by
    have h2 := get_int hk hm (by simp [Op.operands])
    have h1 : slice c.c (a.eval x) xs := hx.get hm (by simp [Op.operands])
    obtain ⟨h0, hlt, he⟩ := idx_some h
    rcases h1 with ⟨a', cap, hv, _, rfl⟩ | ⟨b, off, cap, hv, hl, hcap, hh⟩
    · simp at hlt
    · refine ⟨.pointer (some ⟨b, off + i.toNat * Enc.size α, none⟩), ?_, b, _, rfl, by rw [← he]; exact hh _ hlt⟩
      have hi : 0 ≤ i ∧ i < (xs.length : Int) := ⟨h0, by omega⟩
      simp [execOp, plain, h2, hv, Instr.indexAt, asIntOf, run_underlying hT.desc, hi, hT.elem.sizeOf w, Addr.add_lit]
theorem sp_len {α : Type} [Enc α] {x : Operand} {T E : TypeId} {xs : List α} (hT : P.underlying T = some (.slice E)) (hx : Od Γ x (isV xs)) : StepP P (.call { callee := .builtin .len, args := #[x], argTypes := #[T] }) ty Γ (isV (xs.length : Int)) :=
  step_pure fun c w a hc hm => by
    have h1 : slice c.c (a.eval x) xs := hx.get hm (by simp [Op.operands, Call.operands])
    obtain ⟨a', cap, hv, _, _⟩ := slice_len h1
    refine ⟨.int .i64 xs.length, ?_, rfl⟩
    simp [execOp, plain, resolve, invoke, builtin, Builtin.len_, hv, run_underlying hT, goInt]
theorem sp_lenS {x : Operand} {T : TypeId} {s : ByteArray} (hT : P.underlying T = some .string) (hx : Od Γ x (isV s)) : StepP P (.call { callee := .builtin .len, args := #[x], argTypes := #[T] }) ty Γ (isV (s.size : Int)) :=
  step_pure fun c w a hc hm => by
    have h1 : a.eval x = .string s := hx.get hm (by simp [Op.operands, Call.operands])
    refine ⟨.int .i64 s.size, ?_, rfl⟩
    simp [execOp, plain, resolve, invoke, builtin, Builtin.len_, h1, run_underlying hT, goInt]
/-! ### memory that is made -/
theorem cell_new (w : World) (cs : Array Value) (T : TypeId) (j : Nat) : (w.alloc (.cells cs T)).cell? ⟨w.heap.size, j, none⟩ = cs[j]? := by
  rw [cell_of_row _ _ _ cs T (0, 0) (heap_alloc_new w _)]
theorem below_alloc (w : World) (o : Obj) : Below w.heap.size w (w.alloc o) := (Below.refl _ _).alloc (Nat.le_refl _) o
theorem vw_new {F : Nat → Bool} {w : World} (hF : ∀ b, F b = true → b < w.heap.size) (o : Obj) (j : Nat) : vw F (w.alloc o) ⟨w.heap.size, j, none⟩ = (w.alloc o).cell? ⟨w.heap.size, j, none⟩ := by
  unfold vw
  rw [if_neg]
  intro h
  have := hF _ h
  exact absurd this (by simp)
theorem sp_box {α : Type} [Enc α] {x : Operand} {T : TypeId} {d : α} (hx : Od Γ x (isV d)) : StepP P (.box T x) ty Γ (isA d) := by
  intro F w a hF hm
  have h1 := val_cells (hx.get hm (by simp [Op.operands]))
  unfold Ex
  have hr : (execOp a.eval (plain (.box T x) ty)).run P w = .ok (.value (.pointer (some ⟨w.heap.size, 0, none⟩))) (w.alloc (.cells (a.eval x).cells T)) := by
    simp [execOp, plain, Instr.box, newVar, newRow]
  rw [hr]
  refine ⟨below_alloc _ _, _, _, rfl, _, Enc.mono (vw_below (below_alloc w _)) h1, fun j v e => ?_⟩
  show vw F _ _ = _
  rw [Nat.zero_add, vw_new hF, cell_new]
  simpa using e
end
end Go.Proofs.YtnnhmgcigoiceaaGreatDoor.Wh

namespace Go.Proofs.YtnnhmgcigoiceaaGreatDoor.Wh
open Go Go.RowKit

def Fit (c : Mem2) : List Pr → List Value → Prop
  | [], [] => True
  | φ :: r, v :: s => φ.p c v ∧ Fit c r s
  | _, _ => False
theorem Fit.mono {c c' : Mem2} (hc : Mem2.le c c') : ∀ {φs : List Pr} {vs : List Value}, Fit c φs vs → Fit c' φs vs
  | [], [], _ => trivial
  | φ :: _, _ :: _, h => ⟨φ.mono hc h.1, Fit.mono hc h.2⟩
  | [], _ :: _, h => h.elim
  | _ :: _, [], h => h.elim
theorem Fit.append {c : Mem2} : ∀ {φs ψs : List Pr} {vs us : List Value}, Fit c φs vs → Fit c ψs us → Fit c (φs ++ ψs) (vs ++ us)
  | [], _, [], _, _, k => k
  | _ :: _, _, _ :: _, _, h, k => ⟨h.1, Fit.append h.2 k⟩
  | [], _, _ :: _, _, h, _ => h.elim
  | _ :: _, _, [], _, h, _ => h.elim
theorem Fit.len {c : Mem2} : ∀ {φs : List Pr} {vs : List Value}, Fit c φs vs → vs.length = φs.length
  | [], [], _ => rfl
  | _ :: _, _ :: _, h => by simp [Fit.len h.2]
  | [], _ :: _, h => h.elim
  | _ :: _, [], h => h.elim
theorem Fit.get {c : Mem2} : ∀ {φs : List Pr} {vs : List Value}, Fit c φs vs → ∀ {i : Nat} {φ : Pr}, φs[i]? = some φ → ∃ v, vs[i]? = some v ∧ φ.p c v
  | φ :: _, v :: _, h, 0, ψ, e => by simp at e; subst e; exact ⟨v, rfl, h.1⟩
  | _ :: _, _ :: _, h, i + 1, ψ, e => by simpa using Fit.get h.2 (by simpa using e)
  | [], [], _, i, ψ, e => by simp at e
  | [], _ :: _, h, _, _, _ => h.elim
  | _ :: _, [], h, _, _, _ => h.elim
/-- A contract: what the arguments are, what comes back; memory that was there stays. -/
def CallOK (P : Program) (f : FuncId) (φs : List Pr) (ρ : Pr) : Prop :=
  ∀ (F : Nat → Bool) (w : World) (vs : List Value), (∀ b, F b = true → b < w.heap.size) → Fit (v2 F w) φs vs →
    Calls P f vs.toArray w fun e w' => ∃ v, e = .returned v ∧ Below w.heap.size w w' ∧ ρ.p (v2 F w') v
def isTup (ρs : List Pr) : Pr := ⟨fun c v => ∃ vs, v = .tuple vs.toArray ∧ Fit c ρs vs, fun hc h => by obtain ⟨vs, hv, hf⟩ := h; exact ⟨vs, hv, hf.mono hc⟩⟩
/-- A function value. -/
def isFn (P : Program) {X Y : Type} (A : X → List Pr) (R : Y → Pr) (f : X → Option Y) : Pr :=
  ⟨fun c v => (v = .nilFunc ∧ ∀ x, f x = none) ∨ ∃ g κs cap, v = .func (.func g) #[] cap ∧ Enters P g ∧ Fit ⟨c.c, c.c⟩ κs cap.toList ∧ ∀ x y, f x = some y → CallOK P g (A x ++ κs) (R y),
   fun {c c' _} hc h => h.imp id fun ⟨g, κs, cap, hv, he, hf, h⟩ => ⟨g, κs, cap, hv, he, Fit.mono (c := ⟨c.c, c.c⟩) (c' := ⟨c'.c, c'.c⟩) ⟨hc.1, hc.1⟩ hf, h⟩⟩
/-- Facts that look only at what is written no more. -/
def OnlyC : List Pr → Prop
  | [] => True
  | φ :: r => (∀ (c m m' : Mem) (v : Value), φ.p ⟨c, m⟩ v → φ.p ⟨c, m'⟩ v) ∧ OnlyC r
theorem Fit.only {c m m' : Mem} : ∀ {φs : List Pr} {vs : List Value}, OnlyC φs → Fit ⟨c, m⟩ φs vs → Fit ⟨c, m'⟩ φs vs
  | [], [], _, _ => trivial
  | φ :: r, v :: s, hC, h => ⟨hC.1 _ _ _ _ h.1, Fit.only hC.2 h.2⟩
  | [], _ :: _, _, h => h.elim
  | _ :: _, [], _, h => h.elim
theorem isFn_one {P : Program} {X Y : Type} {A : X → List Pr} {R : Y → Pr} {f : X → Option Y} {c : Mem2} {v : Value} (h : (isFn P A R f).p c v) : v.oneCell' = true := by
  rcases h with ⟨rfl, _⟩ | ⟨_, _, _, rfl, _⟩ <;> rfl
section
variable {P : Program} {Γ : List (Nat × Pr)} {ty : TypeId}
def OdL (Γ : List (Nat × Pr)) : List Operand → List Pr → Prop
  | [], [] => True
  | x :: r, φ :: s => Od Γ x φ ∧ OdL Γ r s
  | _, _ => False
theorem OdL.fit {xs : List Operand} {c : Mem2} {a : Act} (hm : Met Γ xs c a) : ∀ {ys : List Operand} {φs : List Pr}, OdL Γ ys φs → (∀ y ∈ ys, y ∈ xs) → Fit c φs (ys.map a.eval)
  | [], [], _, _ => trivial
  | y :: _, φ :: _, h, hs => ⟨h.1.get hm (hs y (by simp)), OdL.fit hm h.2 fun z hz => hs z (by simp [hz])⟩
  | [], _ :: _, h, _ => h.elim
  | _ :: _, [], h, _ => h.elim
theorem ex_call {f : FuncId} {F : Nat → Bool} {w : World} {a : Act} {op : Op} {ρ : Pr} {vs : List Value}
    (hr : (execOp a.eval (plain op ty)).run P w = .ok (.enter f vs.toArray) w) (h : Calls P f vs.toArray w fun e w' => ∃ v, e = .returned v ∧ Below w.heap.size w w' ∧ ρ.p (v2 F w') v) :
    Ex P (execOp a.eval (plain op ty)) w fun v w' => Below w.heap.size w w' ∧ ρ.p (v2 F w') v := by
  unfold Ex
  rw [hr]
  exact h.mono fun e w' ⟨v, he, hb⟩ => ⟨v, he, hb⟩
theorem mem_call {g : Operand} {xs : Array Operand} {ts : Array TypeId} {y : Operand} (h : y ∈ xs.toList) : y ∈ (Op.call { callee := .value g, args := xs, argTypes := ts }).operands.toList := by
  simp only [Op.operands, Call.operands, Array.toList_append, List.mem_append]
  exact .inr h
theorem sp_call {f : FuncId} {xs : Array Operand} {ts : Array TypeId} {φs : List Pr} {ρ : Pr} (he : Enters P f) (hc : CallOK P f φs ρ) (hx : OdL Γ xs.toList φs) :
    StepP P (.call { callee := .value (.func f), args := xs, argTypes := ts }) ty Γ ρ := by
  intro F w a hF hm
  have hfit := OdL.fit hm hx (fun y hy => mem_call hy)
  refine ex_call (f := f) (vs := xs.toList.map a.eval) ?_ (hc F w _ hF hfit)
  have h0 : a.eval (.func f) = .func (.func f) #[] #[] := rfl
  have h1 : xs.map a.eval = (xs.toList.map a.eval).toArray := by rw [← Array.toList_map]
  simp [execOp, plain, resolve, h0, Deferred.ofValue, invoke, h1, he _ w]
theorem sp_callV {X Y : Type} {A : X → List Pr} {R : Y → Pr} {f : X → Option Y} {g : Operand} {xs : Array Operand} {ts : Array TypeId} {x : X} {y : Y} (hg : Od Γ g (isFn P A R f)) (hx : OdL Γ xs.toList (A x)) (h : f x = some y) :
    StepP P (.call { callee := .value g, args := xs, argTypes := ts }) ty Γ (R y) := by
  intro F w a hF hm
  have hfit := OdL.fit hm hx (fun y hy => mem_call hy)
  rcases hg.get hm (by simp [Op.operands, Call.operands]) with ⟨_, h0⟩ | ⟨k, κs, cap, hv, he, hk, hc⟩
  · rw [h0 x] at h; cases h
  refine ex_call (f := k) (vs := xs.toList.map a.eval ++ cap.toList) ?_ (hc x y h F w _ hF (hfit.append (Fit.mono (c := ⟨vw F w, vw F w⟩) (c' := v2 F w) ⟨Mem.le_refl _, fun _ _ h => vw_cell h⟩ hk)))
  have h1 : xs.map a.eval ++ cap = (xs.toList.map a.eval ++ cap.toList).toArray := by
    apply Array.ext'; simp
  simp [execOp, plain, resolve, hv, Deferred.ofValue, invoke, h1, he _ w]
theorem sp_extract {x : Operand} {ρs : List Pr} {i : Nat} {φ : Pr} (hx : Od Γ x (isTup ρs)) (h : ρs[i]? = some φ) : StepP P (.extract x i) ty Γ φ :=
  step_pure fun c w a hc hm => by
    obtain ⟨vs, hv, hf⟩ := hx.get hm (by simp [Op.operands])
    obtain ⟨v, he, hp⟩ := hf.get h
    exact ⟨v, by simp [execOp, plain, hv, Instr.extract, he], hp⟩
theorem sp_makeFunc {X Y : Type} {A : X → List Pr} {R : Y → Pr} {f : X → Option Y} {g : FuncId} {xs : Array Operand} {κs : List Pr} (hC : OnlyC κs) (he : Enters P g) (hx : OdL Γ xs.toList κs) (h : ∀ x y, f x = some y → CallOK P g (A x ++ κs) (R y)) :
    StepP P (.makeFunc (.func g) #[] xs) ty Γ (isFn P A R f) :=
  step_pure fun c w a hc hm => by
    have hfit := hx.fit hm (fun y hy => by simpa [Op.operands] using hy)
    exact ⟨.func (.func g) #[] (xs.map a.eval), by simp [execOp, plain, Instr.makeFunc], .inr ⟨g, κs, _, rfl, he, Fit.only hC (by simpa using hfit), h⟩⟩
theorem odf {X Y : Type} {A : X → List Pr} {R : Y → Pr} {f : X → Option Y} {g : FuncId} (he : Enters P g) (h : ∀ x y, f x = some y → CallOK P g (A x) (R y)) : Od Γ (.func g) (isFn P A R f) :=
  fun c => .inr ⟨g, [], #[], rfl, he, trivial, fun x y hxy => by simpa using h x y hxy⟩

/-! ### whole functions -/
def zipG : Nat → List Pr → List (Nat × Pr)
  | _, [] => []
  | k, φ :: r => (k, φ) :: zipG (k + 1) r
theorem sat_enter {c : Mem2} {n : Nat} : ∀ {φs : List Pr} {vs : List Value} (k : Nat) (pre : List Value), Fit c φs vs → pre.length = k → ∀ t φ, lk (zipG k φs) t = some φ → φ.p c ((pre ++ vs ++ List.replicate n undef)[t]?.getD undef)
  | [], [], k, pre, _, _, t, φ, e => by cases e
  | ψ :: r, v :: s, k, pre, h, hp, t, φ, e => by
    simp only [zipG, lk] at e
    cases hb : Nat.beq k t with
    | true =>
      rw [hb] at e
      simp only [cond_true, Option.some.injEq] at e
      have := Nat.eq_of_beq_eq_true hb
      subst this; subst e
      subst hp
      have : (pre ++ v :: s ++ List.replicate n undef)[pre.length]? = some v := by simp
      rw [this]; exact h.1
    | false =>
      rw [hb] at e
      have := sat_enter (n := n) (k + 1) (pre ++ [v]) h.2 (by simp [hp]) t φ e
      simpa using this
  | [], _ :: _, _, _, h, _, _, _, _ => h.elim
  | _ :: _, [], _, _, h, _, _, _, _ => h.elim
/-- What is left to show when the body ends. -/
def Fin (P : Program) (fn : Func) (F0 : Nat → Bool) (w0 : World) (ρ : Pr) : Exit → Act → World → Prop :=
  bodyPost P fn fun e w' => ∃ v, e = .returned v ∧ Below w0.heap.size w0 w' ∧ ρ.p (v2 F0 w') v
theorem callOK_of {f : FuncId} {fn : Func} {c : Code} {n : Nat} {φs : List Pr} {ρ : Pr} (hf : P.funcs[f]? = some fn) (hb : fn.body = some c) (hn : fn.ntmps = n) (hl : Nat.ble φs.length n = true)
    (h : ∀ (F0 : Nat → Bool) (w0 : World) (a : Act), (∀ b, F0 b = true → b < w0.heap.size) → At n F0 (zipG 0 φs) a w0 → c.wp P (Fin P fn F0 w0 ρ) a w0) : CallOK P f φs ρ := by
  intro F w vs hF hfit
  refine calls_of_wp hf hb (h F w _ hF ⟨?_, rfl, hF, ?_⟩)
  · have := hfit.len
    have := Nat.le_of_ble_eq_true hl
    simp [hn]; omega
  · intro t φ e
    have := sat_enter (c := v2 F w) (n := n - vs.length) 0 [] hfit rfl t φ e
    unfold tmp
    rw [Array.getD_eq_getD_getElem?]
    have e2 : ((vs.toArray ++ Array.replicate (fn.ntmps - vs.toArray.size) undef)[t]?) = ([] ++ vs ++ List.replicate (n - vs.length) undef)[t]? := by
      rw [← Array.getElem?_toList]; simp [hn]
    rw [e2]; exact this
theorem run_results1 {fn : Func} {t : Nat} (hr : fn.results = #[.tmp t]) (a : Act) (w : World) : (results fn a.tmps).run P w = .ok (tmp a t) w := by
  simp [results, hr, tmp]
theorem run_results2 {fn : Func} {t u : Nat} (hr : fn.results = #[.tmp t, .tmp u]) (a : Act) (w : World) : (results fn a.tmps).run P w = .ok (.tuple [tmp a t, tmp a u].toArray) w := by
  simp [results, hr, tmp]
theorem run_results3 {fn : Func} {t u s : Nat} (hr : fn.results = #[.tmp t, .tmp u, .tmp s]) (a : Act) (w : World) : (results fn a.tmps).run P w = .ok (.tuple [tmp a t, tmp a u, tmp a s].toArray) w := by
  simp [results, hr, tmp]
theorem run_results0 {fn : Func} (hr : fn.results = #[]) (a : Act) (w : World) : (results fn a.tmps).run P w = .ok (.tuple [].toArray) w := by
  simp [results, hr]
theorem fin_ret {fn : Func} {F0 : Nat → Bool} {w0 w : World} {ρ : Pr} {a : Act} {v : Value} (hd : a.defers = []) (hr : (results fn a.tmps).run P w = .ok v w) (hb : Below w0.heap.size w0 w) (hv : ρ.p (v2 F0 w) v) : Fin P fn F0 w0 ρ .ret a w :=
  ⟨hd, v, hr, v, rfl, hb, hv⟩
/-! ### the rules for code -/
theorem At.get {n : Nat} {F : Nat → Bool} {a : Act} {w : World} (h : At n F Γ a w) {t : Nat} {φ : Pr} (e : lk Γ t = some φ) : φ.p (v2 F w) (tmp a t) := h.sat t φ e
theorem c_cond {n : Nat} {F : Nat → Bool} {a : Act} {w : World} {t : Nat} {b : Bool} {x y : Code} {Q : Exit → Act → World → Prop} (h : At n F Γ a w) (e : lk Γ t = some (isV b))
    (ht : b = true → x.wp P Q a w) (hf : b = false → y.wp P Q a w) : (Code.cond (.tmp t) x y).wp P Q a w :=
  wp_cond_split (show tmp a t = .bool b from h.get e) ht hf
section
variable {ops : Array Oper} {d : Option Tmp} {op : Op} {ps : String} {af : Array Edge} {φ : Pr} {j e : Nat} {g G' : Bool}
/-- Operations behind a test (T: it came out true, F: false; w: the test itself stands behind one). -/
theorem sgT (hg : lk Γ e = some (isV g)) (h : g = true → StepP P op ty Γ φ) (hd : (ops[j]?).bind (·.dst) = some e := by rfl) (hs : ∀ cs b, op ≠ .select cs b := by intros; nofun) : StepG P ops ⟨d, op, ty, ps, af, some (j, true)⟩ Γ (φ.when g) :=
  sgg hd hg (fun _ _ h => h) (by cases g <;> rfl) h hs
theorem sgF (hg : lk Γ e = some (isV g)) (h : (!g) = true → StepP P op ty Γ φ) (hd : (ops[j]?).bind (·.dst) = some e := by rfl) (hs : ∀ cs b, op ≠ .select cs b := by intros; nofun) : StepG P ops ⟨d, op, ty, ps, af, some (j, false)⟩ Γ (φ.when (!g)) :=
  sgg hd hg (fun _ _ h => h) (by cases g <;> rfl) h hs
theorem sgwT (hg : lk Γ e = some ((isV g).when G')) (h : (G' && g) = true → StepP P op ty Γ φ) (hd : (ops[j]?).bind (·.dst) = some e := by rfl) (hs : ∀ cs b, op ≠ .select cs b := by intros; nofun) : StepG P ops ⟨d, op, ty, ps, af, some (j, true)⟩ Γ (φ.when (G' && g)) :=
  sggw hd hg (fun _ _ h => h) (by cases g <;> rfl) h hs
theorem sgwF (hg : lk Γ e = some ((isV g).when G')) (h : (G' && !g) = true → StepP P op ty Γ φ) (hd : (ops[j]?).bind (·.dst) = some e := by rfl) (hs : ∀ cs b, op ≠ .select cs b := by intros; nofun) : StepG P ops ⟨d, op, ty, ps, af, some (j, false)⟩ Γ (φ.when (G' && !g)) :=
  sggw hd hg (fun _ _ h => h) (by cases g <;> rfl) h hs
end
theorem and_mk {a b : Bool} (h : a = true) (k : b = true) : (a && b) = true := by rw [h, k]; rfl
theorem not_t {b : Bool} (h : b = false) : (!b) = true := by rw [h]; rfl
theorem exit_then {K : Act → World → Prop} {Q : Exit → Act → World → Prop} {a : Act} {w : World} (h : K a w) : Exit.then K Q .normal a w := h
theorem exit_thenE {K : Act → World → Prop} {Q : Exit → Act → World → Prop} {a : Act} {w : World} {i : Nat} (h : Q (.exit i) a w) : Exit.then K Q (.exit i) a w := h
theorem exit_thenR {K : Act → World → Prop} {Q : Exit → Act → World → Prop} {a : Act} {w : World} (h : Q .ret a w) : Exit.then K Q .ret a w := h
theorem exit_block {Q : Exit → Act → World → Prop} {a : Act} {w : World} {i : Nat} (h : Q .normal a w) : Exit.inBlock i Q .normal a w := h
theorem exit_blockR {Q : Exit → Act → World → Prop} {a : Act} {w : World} {i : Nat} (h : Q .ret a w) : Exit.inBlock i Q .ret a w := h
theorem exit_here {Q : Exit → Act → World → Prop} {a : Act} {w : World} {i : Nat} (h : Q .normal a w) : Exit.inBlock i Q (.exit i) a w := by
  show if i = i then Q .normal a w else Q (.exit i) a w
  rw [if_pos rfl]; exact h
theorem ite_t {α : Type} {b : Bool} {x y z : α} (hb : b = true) (h : (if b = true then x else y) = z) : x = z := by rwa [if_pos hb] at h
theorem ite_f {α : Type} {b : Bool} {x y z : α} (hb : b = false) (h : (if b = true then x else y) = z) : y = z := by rwa [if_neg (by rw [hb]; nofun)] at h
theorem bind_some {α β : Type} {x : Option α} {f : α → Option β} {z : β} (h : (x >>= f) = some z) : ∃ y, x = some y ∧ f y = some z := by
  cases x with
  | none => cases h
  | some y => exact ⟨y, rfl, h⟩
theorem guard_some {α : Type} [Inhabited α] {G : Bool} {x : Option α} {y : α} (h : guardO G x = some y) (hG : G = true) : x = some y := by rw [hG] at h; exact h
theorem wr_small {i n : Int} (h0 : -4294967296 ≤ i) (h1 : i < n) (hn : n ≤ 4294967296) : wr (i + 1) = i + 1 := by
  unfold wr
  exact IntWalk.i64_in _ (by omega)
/-- A counted loop, in the midst of it. -/
def ForI {σ ρ : Type} (st n : Int) (f : Int → σ → Option (Out σ ρ)) (out : Out σ ρ) (k : Nat) (i : Int) (s : σ) : Prop := -4294967296 ≤ i ∧ n ≤ 4294967296 ∧ st ≤ i ∧ ((n - st).toNat : Int) = (i - st) + k ∧ forFrom f k i s = some out
theorem for_init {σ ρ : Type} {st n : Int} {f : Int → σ → Option (Out σ ρ)} {out : Out σ ρ} {s : σ} (h : forM st n s f = some out) : ForI st n f out (n - st).toNat st s := by
  unfold forM at h
  split at h
  · rename_i hn; exact ⟨hn.1, hn.2, Int.le_refl _, by omega, h⟩
  · cases h
theorem for_more {σ ρ : Type} {st n : Int} {f : Int → σ → Option (Out σ ρ)} {out : Out σ ρ} {k : Nat} {i : Int} {s : σ} (h : ForI st n f out k i s) (hlt : decide (i < n) = true) :
    ∃ k' o, k = k' + 1 ∧ f i s = some o ∧ (∀ s', o = .again s' → ForI st n f out k' (i + 1) s') ∧ (∀ r, o = .leave r → .leave r = out) ∧ wr (i + 1) = i + 1 := by
  obtain ⟨h0, hn, hs, hk, he⟩ := h
  have hlt : i < n := of_decide_eq_true hlt
  cases k with
  | zero => omega
  | succ k =>
    simp only [forFrom] at he
    cases hf : f i s with
    | none => rw [hf] at he; cases he
    | some o =>
      rw [hf] at he
      refine ⟨k, o, rfl, rfl, fun s' hs' => ?_, fun r hr => ?_, wr_small h0 hlt hn⟩
      · subst hs'; exact ⟨by omega, hn, by omega, by omega, he⟩
      · subst hr; cases he; rfl
theorem for_done {σ ρ : Type} {st n : Int} {f : Int → σ → Option (Out σ ρ)} {out : Out σ ρ} {k : Nat} {i : Int} {s : σ} (h : ForI st n f out k i s) (hge : decide (i < n) = false) : .again s = out := by
  obtain ⟨h0, hn, hs, hk, he⟩ := h
  have hge : ¬ i < n := of_decide_eq_false hge
  cases k with
  | zero => cases he; rfl
  | succ k => omega
def ForT {σ : Type} (st n : Int) (f : Int → σ → Option σ) (out : σ) (k : Nat) (i : Int) (s : σ) : Prop := -4294967296 ≤ i ∧ n ≤ 4294967296 ∧ st ≤ i ∧ ((n - st).toNat : Int) = (i - st) + k ∧ stepsFrom f k i s = some out
theorem fors_init {σ : Type} {st n : Int} {f : Int → σ → Option σ} {out : σ} {s : σ} (h : forS st n s f = some out) : ForT st n f out (n - st).toNat st s := by
  unfold forS at h
  split at h
  · rename_i hn; exact ⟨hn.1, hn.2, Int.le_refl _, by omega, h⟩
  · cases h
theorem fors_more {σ : Type} {st n : Int} {f : Int → σ → Option σ} {out : σ} {k : Nat} {i : Int} {s : σ} (h : ForT st n f out k i s) (hlt : decide (i < n) = true) :
    ∃ k' s', k = k' + 1 ∧ f i s = some s' ∧ ForT st n f out k' (i + 1) s' ∧ wr (i + 1) = i + 1 := by
  obtain ⟨h0, hn, hs, hk, he⟩ := h
  have hlt : i < n := of_decide_eq_true hlt
  cases k with
  | zero => omega
  | succ k =>
    simp only [stepsFrom] at he
    cases hf : f i s with
    | none => rw [hf] at he; cases he
    | some s' => rw [hf] at he; exact ⟨k, s', rfl, rfl, ⟨by omega, hn, by omega, by omega, he⟩, wr_small h0 hlt hn⟩
theorem fors_done {σ : Type} {st n : Int} {f : Int → σ → Option σ} {out : σ} {k : Nat} {i : Int} {s : σ} (h : ForT st n f out k i s) (hge : decide (i < n) = false) : out = s := by
  obtain ⟨h0, hn, hs, hk, he⟩ := h
  have hge : ¬ i < n := of_decide_eq_false hge
  cases k with
  | zero => cases he; rfl
  | succ k => omega
theorem loop_more {σ ρ : Type} {f : σ → Option (Out σ ρ)} {k : Nat} {s : σ} {out : ρ} (h : loopM f (k + 1) s = some out) :
    ∃ o, f s = some o ∧ (∀ s', o = .again s' → loopM f k s' = some out) ∧ (∀ r, o = .leave r → r = out) := by
  simp only [loopM] at h
  cases hf : f s with
  | none => rw [hf] at h; cases h
  | some o =>
    rw [hf] at h
    refine ⟨o, rfl, fun s' hs => ?_, fun r hr => ?_⟩
    · subst hs; exact h
    · subst hr; cases h; rfl
/-- The operations in the text's order, and what is to be shown behind them. -/
def SeqK (P : Program) (ops : Array Oper) : List Oper → List (Nat × Pr) → (List (Nat × Pr) → Prop) → Prop
  | [], Γ, K => K Γ
  | o :: r, Γ, K => ∃ φ, StepG P ops o Γ φ ∧ SeqK P ops r (upd Γ o.dst φ) K
theorem seqK_open {ops : Array Oper} {K : List (Nat × Pr) → Prop} : ∀ {l : List Oper} {Γ : List (Nat × Pr)}, SeqK P ops l Γ K → ∃ Γ', SeqOK P ops l Γ Γ' ∧ K Γ'
  | [], Γ, h => ⟨Γ, rfl, h⟩
  | o :: r, Γ, ⟨φ, h, k⟩ => by
    obtain ⟨Γ', h1, h2⟩ := seqK_open k
    exact ⟨Γ', ⟨φ, h, h1⟩, h2⟩
/-- One operation more; its slot. -/
theorem sc {ops : Array Oper} {d : Nat} {op : Op} {t : TypeId} {ps : String} {af : Array Edge} {g : Option (Nat × Bool)} {r : List Oper} {K : List (Nat × Pr) → Prop} {φ : Pr}
    (h : StepG P ops ⟨some d, op, t, ps, af, g⟩ Γ φ) (k : SeqK P ops r ((d, φ) :: Γ) K) : SeqK P ops (⟨some d, op, t, ps, af, g⟩ :: r) Γ K := ⟨φ, h, k⟩
theorem sn {ops : Array Oper} {K : List (Nat × Pr) → Prop} (h : K Γ) : SeqK P ops [] Γ K := h
/-- A loop, by how many rounds are left at most. -/
theorem c_loop {c : Code} {Q : Exit → Act → World → Prop} (I : Nat → Act → World → Prop) (h0 : ∀ a w, ¬ I 0 a w)
    (round : ∀ k a w, I (k + 1) a w → c.wp P (Exit.then (I k) Q) a w) {k : Nat} {a : Act} {w : World} (h : I k a w) : (Code.loop c).wp P Q a w := by
  intro b K cs
  have key : ∀ k a w, I k a w → ∃ e a' w', Q e a' w' ∧ Arrives P (lone (b.at a (.code c :: .inLoop c :: K)) cs w) b K cs e a' w' := by
    intro k
    induction k with
    | zero => intro a w h; exact (h0 a w h).elim
    | succ k ih =>
      intro a w h
      obtain ⟨e, a₁, w₁, hq, harr⟩ := round k a w h b (.inLoop c :: K) cs
      cases e with
      | normal =>
        obtain ⟨e₂, a₂, w₂, hq₂, harr₂⟩ := ih a₁ w₁ hq
        exact ⟨e₂, a₂, w₂, hq₂, .of_steps (Steps.trans harr (.one step_inLoop)) harr₂⟩
      | exit id => exact ⟨_, a₁, w₁, hq, .pass (x := .inLoop c) rfl (fun _ _ => .inl (by simp)) harr⟩
      | goto l => exact ⟨_, a₁, w₁, hq, .pass (x := .inLoop c) rfl (fun _ _ => .inl (by simp)) harr⟩
      | ret => exact ⟨_, a₁, w₁, hq, .pass (x := .inLoop c) rfl (fun _ _ => .inl (by simp)) harr⟩
      | panic ch => exact ⟨_, a₁, w₁, hq, .pass (x := .inLoop c) rfl (fun _ _ => .inl (by simp)) harr⟩
      | outgrown => exact ⟨_, a₁, w₁, hq, .pass (x := .inLoop c) rfl (fun _ _ => .inl (by simp)) harr⟩
  obtain ⟨e, a', w', hq, harr⟩ := key k a w h
  exact ⟨e, a', w', hq, .of_steps (.one step_loop) harr⟩
end
end Go.Proofs.YtnnhmgcigoiceaaGreatDoor.Wh
