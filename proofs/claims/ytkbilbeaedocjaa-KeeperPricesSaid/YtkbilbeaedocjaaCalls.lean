/-
  What is proved: calls by contracts of facts, tuples, function values, made structs and slices; the rules for whole functions.
-/
import Derived.Test.YtkbilbeaedocjaaOps
import Derived.IntWalk
namespace Go.Proofs.Ytkbilbeaedocjaa.Wh
open Go Go.RowKit

def Fit (c : Mem2) : List Pr → List Value → Prop
  | [], [] => True
  | φ :: r, v :: s => φ.p c v ∧ Fit c r s
  | _, _ => False
theorem Fit.mono {c c' : Mem2} (hc : Mem2.le c c') : ∀ {φs : List Pr} {vs : List Value}, Fit c φs vs → Fit c' φs vs
  | [], [], _ => trivial
  | φ :: _, _ :: _, h => ⟨φ.mono hc h.1, Fit.mono hc h.2⟩
  | [], _ :: _, h => h.elim
  | _ :: _, [], h => h.elim
theorem Fit.append {c : Mem2} : ∀ {φs ψs : List Pr} {vs us : List Value}, Fit c φs vs → Fit c ψs us → Fit c (φs ++ ψs) (vs ++ us)
  | [], _, [], _, _, k => k
  | _ :: _, _, _ :: _, _, h, k => ⟨h.1, Fit.append h.2 k⟩
  | [], _, _ :: _, _, h, _ => h.elim
  | _ :: _, _, [], _, h, _ => h.elim
theorem Fit.len {c : Mem2} : ∀ {φs : List Pr} {vs : List Value}, Fit c φs vs → vs.length = φs.length
  | [], [], _ => rfl
  | _ :: _, _ :: _, h => by simp [Fit.len h.2]
  | [], _ :: _, h => h.elim
  | _ :: _, [], h => h.elim
theorem Fit.get {c : Mem2} : ∀ {φs : List Pr} {vs : List Value}, Fit c φs vs → ∀ {i : Nat} {φ : Pr}, φs[i]? = some φ → ∃ v, vs[i]? = some v ∧ φ.p c v
  | φ :: _, v :: _, h, 0, ψ, e => by simp at e; subst e; exact ⟨v, rfl, h.1⟩
  | _ :: _, _ :: _, h, i + 1, ψ, e => by simpa using Fit.get h.2 (by simpa using e)
  | [], [], _, i, ψ, e => by simp at e
  | [], _ :: _, h, _, _, _ => h.elim
  | _ :: _, [], h, _, _, _ => h.elim
/-- A contract: what the arguments are, what comes back; memory that was there stays. -/
def CallOK (P : Program) (f : FuncId) (φs : List Pr) (ρ : Pr) : Prop :=
  ∀ (F : Nat → Bool) (w : World) (vs : List Value), (∀ b, F b = true → b < w.heap.size) → Fit (v2 F w) φs vs →
    Calls P f vs.toArray w fun e w' => ∃ v, e = .returned v ∧ Below w.heap.size w w' ∧ ρ.p (v2 F w') v
def isTup (ρs : List Pr) : Pr := ⟨fun c v => ∃ vs, v = .tuple vs.toArray ∧ Fit c ρs vs, fun hc h => by obtain ⟨vs, hv, hf⟩ := h; exact ⟨vs, hv, hf.mono hc⟩⟩
/-- A function value. -/
def isFn (P : Program) {X Y : Type} (A : X → List Pr) (R : Y → Pr) (f : X → Option Y) : Pr :=
  ⟨fun c v => (v = .nilFunc ∧ ∀ x, f x = none) ∨ ∃ g κs cap, v = .func (.func g) #[] cap ∧ Enters P g ∧ Fit ⟨c.c, c.c⟩ κs cap.toList ∧ ∀ x y, f x = some y → CallOK P g (A x ++ κs) (R y),
   fun {c c' _} hc h => h.imp id fun ⟨g, κs, cap, hv, he, hf, h⟩ => ⟨g, κs, cap, hv, he, Fit.mono (c := ⟨c.c, c.c⟩) (c' := ⟨c'.c, c'.c⟩) ⟨hc.1, hc.1⟩ hf, h⟩⟩
/-- Facts that look only at what is written no more. -/
def OnlyC : List Pr → Prop
  | [] => True
  | φ :: r => (∀ (c m m' : Mem) (v : Value), φ.p ⟨c, m⟩ v → φ.p ⟨c, m'⟩ v) ∧ OnlyC r
theorem Fit.only {c m m' : Mem} : ∀ {φs : List Pr} {vs : List Value}, OnlyC φs → Fit ⟨c, m⟩ φs vs → Fit ⟨c, m'⟩ φs vs
  | [], [], _, _ => trivial
  | φ :: r, v :: s, hC, h => ⟨hC.1 _ _ _ _ h.1, Fit.only hC.2 h.2⟩
  | [], _ :: _, _, h => h.elim
  | _ :: _, [], _, h => h.elim
theorem isFn_one {P : Program} {X Y : Type} {A : X → List Pr} {R : Y → Pr} {f : X → Option Y} {c : Mem2} {v : Value} (h : (isFn P A R f).p c v) : v.oneCell' = true := by
  rcases h with ⟨rfl, _⟩ | ⟨_, _, _, rfl, _⟩ <;> rfl
section
variable {P : Program} {Γ : List (Nat × Pr)} {ty : TypeId}
def OdL (Γ : List (Nat × Pr)) : List Operand → List Pr → Prop
  | [], [] => True
  | x :: r, φ :: s => Od Γ x φ ∧ OdL Γ r s
  | _, _ => False
theorem OdL.fit {xs : List Operand} {c : Mem2} {a : Act} (hm : Met Γ xs c a) : ∀ {ys : List Operand} {φs : List Pr}, OdL Γ ys φs → (∀ y ∈ ys, y ∈ xs) → Fit c φs (ys.map a.eval)
  | [], [], _, _ => trivial
  | y :: _, φ :: _, h, hs => ⟨h.1.get hm (hs y (by simp)), OdL.fit hm h.2 fun z hz => hs z (by simp [hz])⟩
  | [], _ :: _, h, _ => h.elim
  | _ :: _, [], h, _ => h.elim
theorem ex_call {f : FuncId} {F : Nat → Bool} {w : World} {a : Act} {op : Op} {ρ : Pr} {vs : List Value}
    (hr : (execOp a.eval (plain op ty)).run P w = .ok (.enter f vs.toArray) w) (h : Calls P f vs.toArray w fun e w' => ∃ v, e = .returned v ∧ Below w.heap.size w w' ∧ ρ.p (v2 F w') v) :
    Ex P (execOp a.eval (plain op ty)) w fun v w' => Below w.heap.size w w' ∧ ρ.p (v2 F w') v := by
  unfold Ex
  rw [hr]
  exact h.mono fun e w' ⟨v, he, hb⟩ => ⟨v, he, hb⟩
theorem mem_call {g : Operand} {xs : Array Operand} {ts : Array TypeId} {y : Operand} (h : y ∈ xs.toList) : y ∈ (Op.call { callee := .value g, args := xs, argTypes := ts }).operands.toList := by
  simp only [Op.operands, Call.operands, Array.toList_append, List.mem_append]
  exact .inr h
theorem sp_call {f : FuncId} {xs : Array Operand} {ts : Array TypeId} {φs : List Pr} {ρ : Pr} (he : Enters P f) (hc : CallOK P f φs ρ) (hx : OdL Γ xs.toList φs) :
    StepP P (.call { callee := .value (.func f), args := xs, argTypes := ts }) ty Γ ρ := by
  intro F w a hF hm
  have hfit := OdL.fit hm hx (fun y hy => mem_call hy)
  refine ex_call (f := f) (vs := xs.toList.map a.eval) ?_ (hc F w _ hF hfit)
  have h0 : a.eval (.func f) = .func (.func f) #[] #[] := rfl
  have h1 : xs.map a.eval = (xs.toList.map a.eval).toArray := by rw [← Array.toList_map]
  simp [execOp, plain, resolve, h0, Deferred.ofValue, invoke, h1, he _ w]
theorem sp_callV {X Y : Type} {A : X → List Pr} {R : Y → Pr} {f : X → Option Y} {g : Operand} {xs : Array Operand} {ts : Array TypeId} {x : X} {y : Y} (hg : Od Γ g (isFn P A R f)) (hx : OdL Γ xs.toList (A x)) (h : f x = some y) :
    StepP P (.call { callee := .value g, args := xs, argTypes := ts }) ty Γ (R y) := by
  intro F w a hF hm
  have hfit := OdL.fit hm hx (fun y hy => mem_call hy)
  rcases hg.get hm (by simp [Op.operands, Call.operands]) with ⟨_, h0⟩ | ⟨k, κs, cap, hv, he, hk, hc⟩
  · rw [h0 x] at h; cases h
  refine ex_call (f := k) (vs := xs.toList.map a.eval ++ cap.toList) ?_ (hc x y h F w _ hF (hfit.append (Fit.mono (c := ⟨vw F w, vw F w⟩) (c' := v2 F w) ⟨Mem.le_refl _, fun _ _ h => vw_cell h⟩ hk)))
  have h1 : xs.map a.eval ++ cap = (xs.toList.map a.eval ++ cap.toList).toArray := by
    apply Array.ext'; simp
  simp [execOp, plain, resolve, hv, Deferred.ofValue, invoke, h1, he _ w]
theorem sp_extract {x : Operand} {ρs : List Pr} {i : Nat} {φ : Pr} (hx : Od Γ x (isTup ρs)) (h : ρs[i]? = some φ) : StepP P (.extract x i) ty Γ φ :=
  step_pure fun c w a hc hm => by
    obtain ⟨vs, hv, hf⟩ := hx.get hm (by simp [Op.operands])
    obtain ⟨v, he, hp⟩ := hf.get h
    exact ⟨v, by simp [execOp, plain, hv, Instr.extract, he], hp⟩
theorem sp_makeFunc {X Y : Type} {A : X → List Pr} {R : Y → Pr} {f : X → Option Y} {g : FuncId} {xs : Array Operand} {κs : List Pr} (hC : OnlyC κs) (he : Enters P g) (hx : OdL Γ xs.toList κs) (h : ∀ x y, f x = some y → CallOK P g (A x ++ κs) (R y)) :
    StepP P (.makeFunc (.func g) #[] xs) ty Γ (isFn P A R f) :=
  step_pure fun c w a hc hm => by
    have hfit := hx.fit hm (fun y hy => by simpa [Op.operands] using hy)
    exact ⟨.func (.func g) #[] (xs.map a.eval), by simp [execOp, plain, Instr.makeFunc], .inr ⟨g, κs, _, rfl, he, Fit.only hC (by simpa using hfit), h⟩⟩
theorem odf {X Y : Type} {A : X → List Pr} {R : Y → Pr} {f : X → Option Y} {g : FuncId} (he : Enters P g) (h : ∀ x y, f x = some y → CallOK P g (A x) (R y)) : Od Γ (.func g) (isFn P A R f) :=
  fun c => .inr ⟨g, [], #[], rfl, he, trivial, fun x y hxy => by simpa using h x y hxy⟩

/-! ### whole functions -/
def zipG : Nat → List Pr → List (Nat × Pr)
  | _, [] => []
  | k, φ :: r => (k, φ) :: zipG (k + 1) r
theorem sat_enter {c : Mem2} {n : Nat} : ∀ {φs : List Pr} {vs : List Value} (k : Nat) (pre : List Value), Fit c φs vs → pre.length = k → ∀ t φ, lk (zipG k φs) t = some φ → φ.p c ((pre ++ vs ++ List.replicate n undef)[t]?.getD undef)
  | [], [], k, pre, _, _, t, φ, e => by cases e
  | ψ :: r, v :: s, k, pre, h, hp, t, φ, e => by
    simp only [zipG, lk] at e
    cases hb : Nat.beq k t with
    | true =>
      rw [hb] at e
      simp only [cond_true, Option.some.injEq] at e
      have := Nat.eq_of_beq_eq_true hb
      subst this; subst e
      subst hp
      have : (pre ++ v :: s ++ List.replicate n undef)[pre.length]? = some v := by simp
      rw [this]; exact h.1
    | false =>
      rw [hb] at e
      have := sat_enter (n := n) (k + 1) (pre ++ [v]) h.2 (by simp [hp]) t φ e
      simpa using this
  | [], _ :: _, _, _, h, _, _, _, _ => h.elim
  | _ :: _, [], _, _, h, _, _, _, _ => h.elim
/-- What is left to show when the body ends. -/
def Fin (P : Program) (fn : Func) (F0 : Nat → Bool) (w0 : World) (ρ : Pr) : Exit → Act → World → Prop :=
  bodyPost P fn fun e w' => ∃ v, e = .returned v ∧ Below w0.heap.size w0 w' ∧ ρ.p (v2 F0 w') v
theorem callOK_of {f : FuncId} {fn : Func} {c : Code} {n : Nat} {φs : List Pr} {ρ : Pr} (hf : P.funcs[f]? = some fn) (hb : fn.body = some c) (hn : fn.ntmps = n) (hl : Nat.ble φs.length n = true)
    (h : ∀ (F0 : Nat → Bool) (w0 : World) (a : Act), (∀ b, F0 b = true → b < w0.heap.size) → At n F0 (zipG 0 φs) a w0 → c.wp P (Fin P fn F0 w0 ρ) a w0) : CallOK P f φs ρ := by
  intro F w vs hF hfit
  refine calls_of_wp hf hb (h F w _ hF ⟨?_, rfl, hF, ?_⟩)
  · have := hfit.len
    have := Nat.le_of_ble_eq_true hl
    simp [hn]; omega
  · intro t φ e
    have := sat_enter (c := v2 F w) (n := n - vs.length) 0 [] hfit rfl t φ e
    unfold tmp
    rw [Array.getD_eq_getD_getElem?]
    have e2 : ((vs.toArray ++ Array.replicate (fn.ntmps - vs.toArray.size) undef)[t]?) = ([] ++ vs ++ List.replicate (n - vs.length) undef)[t]? := by
      rw [← Array.getElem?_toList]; simp [hn]
    rw [e2]; exact this
theorem run_results1 {fn : Func} {t : Nat} (hr : fn.results = #[.tmp t]) (a : Act) (w : World) : (results fn a.tmps).run P w = .ok (tmp a t) w := by
  simp [results, hr, tmp]
def valsOf (a : Act) : List ResultVar → List Value
  | [] => []
  | .tmp t :: r => tmp a t :: valsOf a r
  | _ :: r => valsOf a r
theorem run_results2 {fn : Func} {t u : Nat} (hr : fn.results = #[.tmp t, .tmp u]) (a : Act) (w : World) : (results fn a.tmps).run P w = .ok (.tuple [tmp a t, tmp a u].toArray) w := by
  simp [results, hr, tmp]
theorem run_results3 {fn : Func} {t u s : Nat} (hr : fn.results = #[.tmp t, .tmp u, .tmp s]) (a : Act) (w : World) : (results fn a.tmps).run P w = .ok (.tuple [tmp a t, tmp a u, tmp a s].toArray) w := by
  simp [results, hr, tmp]
theorem run_results4 {fn : Func} {t u s r : Nat} (hr : fn.results = #[.tmp t, .tmp u, .tmp s, .tmp r]) (a : Act) (w : World) : (results fn a.tmps).run P w = .ok (.tuple [tmp a t, tmp a u, tmp a s, tmp a r].toArray) w := by
  simp [results, hr, tmp]
theorem run_results0 {fn : Func} (hr : fn.results = #[]) (a : Act) (w : World) : (results fn a.tmps).run P w = .ok (.tuple [].toArray) w := by
  simp [results, hr]
theorem fin_ret {fn : Func} {F0 : Nat → Bool} {w0 w : World} {ρ : Pr} {a : Act} {v : Value} (hd : a.defers = []) (hr : (results fn a.tmps).run P w = .ok v w) (hb : Below w0.heap.size w0 w) (hv : ρ.p (v2 F0 w) v) : Fin P fn F0 w0 ρ .ret a w :=
  ⟨hd, v, hr, v, rfl, hb, hv⟩
theorem fin_normal {fn : Func} {F0 : Nat → Bool} {w0 w : World} {ρ : Pr} {a : Act} {v : Value} (hd : a.defers = []) (hr : (results fn a.tmps).run P w = .ok v w) (hb : Below w0.heap.size w0 w) (hv : ρ.p (v2 F0 w) v) : Fin P fn F0 w0 ρ .normal a w :=
  ⟨hd, v, hr, v, rfl, hb, hv⟩

/-! ### the rules for code -/
theorem At.get {n : Nat} {F : Nat → Bool} {a : Act} {w : World} (h : At n F Γ a w) {t : Nat} {φ : Pr} (e : lk Γ t = some φ) : φ.p (v2 F w) (tmp a t) := h.sat t φ e
theorem c_cond {n : Nat} {F : Nat → Bool} {a : Act} {w : World} {t : Nat} {b : Bool} {x y : Code} {Q : Exit → Act → World → Prop} (h : At n F Γ a w) (e : lk Γ t = some (isV b))
    (ht : b = true → x.wp P Q a w) (hf : b = false → y.wp P Q a w) : (Code.cond (.tmp t) x y).wp P Q a w :=
  wp_cond_split (show tmp a t = .bool b from h.get e) ht hf
section
variable {ops : Array Oper} {d : Option Tmp} {op : Op} {ps : String} {af : Array Edge} {φ : Pr} {j e : Nat} {g G' : Bool}
/-- Operations behind a test (T: it came out true, F: false; w: the test itself stands behind one). -/
theorem sgT (hg : lk Γ e = some (isV g)) (h : g = true → StepP P op ty Γ φ) (hd : (ops[j]?).bind (·.dst) = some e := by rfl) (hs : ∀ cs b, op ≠ .select cs b := by intros; nofun) : StepG P ops ⟨d, op, ty, ps, af, some (j, true)⟩ Γ (φ.when g) :=
  sgg hd hg (fun _ _ h => h) (by cases g <;> rfl) h hs
theorem sgF (hg : lk Γ e = some (isV g)) (h : (!g) = true → StepP P op ty Γ φ) (hd : (ops[j]?).bind (·.dst) = some e := by rfl) (hs : ∀ cs b, op ≠ .select cs b := by intros; nofun) : StepG P ops ⟨d, op, ty, ps, af, some (j, false)⟩ Γ (φ.when (!g)) :=
  sgg hd hg (fun _ _ h => h) (by cases g <;> rfl) h hs
theorem sgwT (hg : lk Γ e = some ((isV g).when G')) (h : (G' && g) = true → StepP P op ty Γ φ) (hd : (ops[j]?).bind (·.dst) = some e := by rfl) (hs : ∀ cs b, op ≠ .select cs b := by intros; nofun) : StepG P ops ⟨d, op, ty, ps, af, some (j, true)⟩ Γ (φ.when (G' && g)) :=
  sggw hd hg (fun _ _ h => h) (by cases g <;> rfl) h hs
theorem sgwF (hg : lk Γ e = some ((isV g).when G')) (h : (G' && !g) = true → StepP P op ty Γ φ) (hd : (ops[j]?).bind (·.dst) = some e := by rfl) (hs : ∀ cs b, op ≠ .select cs b := by intros; nofun) : StepG P ops ⟨d, op, ty, ps, af, some (j, false)⟩ Γ (φ.when (G' && !g)) :=
  sggw hd hg (fun _ _ h => h) (by cases g <;> rfl) h hs
end
theorem and_l {a b : Bool} (h : (a && b) = true) : a = true := by cases a <;> simp_all
theorem and_mk {a b : Bool} (h : a = true) (k : b = true) : (a && b) = true := by rw [h, k]; rfl
theorem not_t {b : Bool} (h : b = false) : (!b) = true := by rw [h]; rfl
theorem not_f {b : Bool} (h : (!b) = true) : b = false := by cases b <;> simp_all
theorem exit_then {K : Act → World → Prop} {Q : Exit → Act → World → Prop} {a : Act} {w : World} (h : K a w) : Exit.then K Q .normal a w := h
theorem exit_thenE {K : Act → World → Prop} {Q : Exit → Act → World → Prop} {a : Act} {w : World} {i : Nat} (h : Q (.exit i) a w) : Exit.then K Q (.exit i) a w := h
theorem exit_thenR {K : Act → World → Prop} {Q : Exit → Act → World → Prop} {a : Act} {w : World} (h : Q .ret a w) : Exit.then K Q .ret a w := h
theorem exit_block {Q : Exit → Act → World → Prop} {a : Act} {w : World} {i : Nat} (h : Q .normal a w) : Exit.inBlock i Q .normal a w := h
theorem exit_blockR {Q : Exit → Act → World → Prop} {a : Act} {w : World} {i : Nat} (h : Q .ret a w) : Exit.inBlock i Q .ret a w := h
theorem exit_here {Q : Exit → Act → World → Prop} {a : Act} {w : World} {i : Nat} (h : Q .normal a w) : Exit.inBlock i Q (.exit i) a w := by
  show if i = i then Q .normal a w else Q (.exit i) a w
  rw [if_pos rfl]; exact h
theorem exit_pass {Q : Exit → Act → World → Prop} {a : Act} {w : World} {i j : Nat} (hij : Nat.beq j i = false) (h : Q (.exit j) a w) : Exit.inBlock i Q (.exit j) a w := by
  show if j = i then Q .normal a w else Q (.exit j) a w
  rw [if_neg (fun e => by subst e; simp at hij)]; exact h
theorem ite_t {α : Type} {b : Bool} {x y z : α} (hb : b = true) (h : (if b = true then x else y) = z) : x = z := by rwa [if_pos hb] at h
theorem ite_f {α : Type} {b : Bool} {x y z : α} (hb : b = false) (h : (if b = true then x else y) = z) : y = z := by rwa [if_neg (by rw [hb]; nofun)] at h
theorem bind_some {α β : Type} {x : Option α} {f : α → Option β} {z : β} (h : (x >>= f) = some z) : ∃ y, x = some y ∧ f y = some z := by
  cases x with
  | none => cases h
  | some y => exact ⟨y, rfl, h⟩
theorem guard_some {α : Type} [Inhabited α] {G : Bool} {x : Option α} {y : α} (h : guardO G x = some y) (hG : G = true) : x = some y := by rw [hG] at h; exact h
theorem wr_small {i n : Int} (h0 : -4294967296 ≤ i) (h1 : i < n) (hn : n ≤ 4294967296) : wr (i + 1) = i + 1 := by
  unfold wr
  exact IntWalk.i64_in _ (by omega)
/-- A counted loop, in the midst of it. -/
def ForI {σ ρ : Type} (st n : Int) (f : Int → σ → Option (Out σ ρ)) (out : Out σ ρ) (k : Nat) (i : Int) (s : σ) : Prop := -4294967296 ≤ i ∧ n ≤ 4294967296 ∧ st ≤ i ∧ ((n - st).toNat : Int) = (i - st) + k ∧ forFrom f k i s = some out
theorem for_init {σ ρ : Type} {st n : Int} {f : Int → σ → Option (Out σ ρ)} {out : Out σ ρ} {s : σ} (h : forM st n s f = some out) : ForI st n f out (n - st).toNat st s := by
  unfold forM at h
  split at h
  · rename_i hn; exact ⟨hn.1, hn.2, Int.le_refl _, by omega, h⟩
  · cases h
theorem for_more {σ ρ : Type} {st n : Int} {f : Int → σ → Option (Out σ ρ)} {out : Out σ ρ} {k : Nat} {i : Int} {s : σ} (h : ForI st n f out k i s) (hlt : decide (i < n) = true) :
    ∃ k' o, k = k' + 1 ∧ f i s = some o ∧ (∀ s', o = .again s' → ForI st n f out k' (i + 1) s') ∧ (∀ r, o = .leave r → .leave r = out) ∧ wr (i + 1) = i + 1 := by
  obtain ⟨h0, hn, hs, hk, he⟩ := h
  have hlt : i < n := of_decide_eq_true hlt
  cases k with
  | zero => omega
  | succ k =>
    simp only [forFrom] at he
    cases hf : f i s with
    | none => rw [hf] at he; cases he
    | some o =>
      rw [hf] at he
      refine ⟨k, o, rfl, rfl, fun s' hs' => ?_, fun r hr => ?_, wr_small h0 hlt hn⟩
      · subst hs'; exact ⟨by omega, hn, by omega, by omega, he⟩
      · subst hr; cases he; rfl
theorem for_done {σ ρ : Type} {st n : Int} {f : Int → σ → Option (Out σ ρ)} {out : Out σ ρ} {k : Nat} {i : Int} {s : σ} (h : ForI st n f out k i s) (hge : decide (i < n) = false) : .again s = out := by
  obtain ⟨h0, hn, hs, hk, he⟩ := h
  have hge : ¬ i < n := of_decide_eq_false hge
  cases k with
  | zero => cases he; rfl
  | succ k => omega
def ForT {σ : Type} (st n : Int) (f : Int → σ → Option σ) (out : σ) (k : Nat) (i : Int) (s : σ) : Prop := -4294967296 ≤ i ∧ n ≤ 4294967296 ∧ st ≤ i ∧ ((n - st).toNat : Int) = (i - st) + k ∧ stepsFrom f k i s = some out
theorem fors_init {σ : Type} {st n : Int} {f : Int → σ → Option σ} {out : σ} {s : σ} (h : forS st n s f = some out) : ForT st n f out (n - st).toNat st s := by
  unfold forS at h
  split at h
  · rename_i hn; exact ⟨hn.1, hn.2, Int.le_refl _, by omega, h⟩
  · cases h
theorem fors_more {σ : Type} {st n : Int} {f : Int → σ → Option σ} {out : σ} {k : Nat} {i : Int} {s : σ} (h : ForT st n f out k i s) (hlt : decide (i < n) = true) :
    ∃ k' s', k = k' + 1 ∧ f i s = some s' ∧ ForT st n f out k' (i + 1) s' ∧ wr (i + 1) = i + 1 := by
  obtain ⟨h0, hn, hs, hk, he⟩ := h
  have hlt : i < n := of_decide_eq_true hlt
  cases k with
  | zero => omega
  | succ k =>
    simp only [stepsFrom] at he
    cases hf : f i s with
    | none => rw [hf] at he; cases he
    | some s' => rw [hf] at he; exact ⟨k, s', rfl, rfl, ⟨by omega, hn, by omega, by omega, he⟩, wr_small h0 hlt hn⟩
theorem fors_done {σ : Type} {st n : Int} {f : Int → σ → Option σ} {out : σ} {k : Nat} {i : Int} {s : σ} (h : ForT st n f out k i s) (hge : decide (i < n) = false) : out = s := by
  obtain ⟨h0, hn, hs, hk, he⟩ := h
  have hge : ¬ i < n := of_decide_eq_false hge
  cases k with
  | zero => cases he; rfl
  | succ k => omega
theorem loop_more {σ ρ : Type} {f : σ → Option (Out σ ρ)} {k : Nat} {s : σ} {out : ρ} (h : loopM f (k + 1) s = some out) :
    ∃ o, f s = some o ∧ (∀ s', o = .again s' → loopM f k s' = some out) ∧ (∀ r, o = .leave r → r = out) := by
  simp only [loopM] at h
  cases hf : f s with
  | none => rw [hf] at h; cases h
  | some o =>
    rw [hf] at h
    refine ⟨o, rfl, fun s' hs => ?_, fun r hr => ?_⟩
    · subst hs; exact h
    · subst hr; cases h; rfl
/-- The operations in the text's order, and what is to be shown behind them. -/
def SeqK (P : Program) (ops : Array Oper) : List Oper → List (Nat × Pr) → (List (Nat × Pr) → Prop) → Prop
  | [], Γ, K => K Γ
  | o :: r, Γ, K => ∃ φ, StepG P ops o Γ φ ∧ SeqK P ops r (upd Γ o.dst φ) K
theorem seqK_open {ops : Array Oper} {K : List (Nat × Pr) → Prop} : ∀ {l : List Oper} {Γ : List (Nat × Pr)}, SeqK P ops l Γ K → ∃ Γ', SeqOK P ops l Γ Γ' ∧ K Γ'
  | [], Γ, h => ⟨Γ, rfl, h⟩
  | o :: r, Γ, ⟨φ, h, k⟩ => by
    obtain ⟨Γ', h1, h2⟩ := seqK_open k
    exact ⟨Γ', ⟨φ, h, h1⟩, h2⟩
/-- One operation more; its slot. -/
theorem sc {ops : Array Oper} {d : Nat} {op : Op} {t : TypeId} {ps : String} {af : Array Edge} {g : Option (Nat × Bool)} {r : List Oper} {K : List (Nat × Pr) → Prop} {φ : Pr}
    (h : StepG P ops ⟨some d, op, t, ps, af, g⟩ Γ φ) (k : SeqK P ops r ((d, φ) :: Γ) K) : SeqK P ops (⟨some d, op, t, ps, af, g⟩ :: r) Γ K := ⟨φ, h, k⟩
theorem sc0 {ops : Array Oper} {op : Op} {t : TypeId} {ps : String} {af : Array Edge} {g : Option (Nat × Bool)} {r : List Oper} {K : List (Nat × Pr) → Prop} {φ : Pr}
    (h : StepG P ops ⟨none, op, t, ps, af, g⟩ Γ φ) (k : SeqK P ops r Γ K) : SeqK P ops (⟨none, op, t, ps, af, g⟩ :: r) Γ K := ⟨φ, h, k⟩
theorem sn {ops : Array Oper} {K : List (Nat × Pr) → Prop} (h : K Γ) : SeqK P ops [] Γ K := h
/-- A region, and what the walk has gathered. -/
theorem reg (hm : P.follows .mixedOrders = true) {id n : Nat} {ops : Array Oper} {draw : Bool} {Q : Exit → Act → World → Prop} {F : Nat → Bool} {a : Act} {w w0 : World}
    (hok : regionOK n ops = true) (ha : At n F Γ a w) (hB : Below w0.heap.size w0 w)
    (hs : SeqK P ops ops.toList Γ fun Γ' => ∀ a' w', Below w.heap.size w w' → Below w0.heap.size w0 w' → At n F Γ' a' w' → Q .normal a' w') : (Code.region id ops draw).wp P Q a w := by
  obtain ⟨Γ', h1, k⟩ := seqK_open hs
  exact wp_grow hm hok h1 ha fun a' w' hb ha' => k a' w' hb (below_trans' hB hb) ha'
theorem At.keep {n : Nat} {F : Nat → Bool} {a : Act} {w : World} {Δ : List (Nat × Pr)} (h : At n F Γ a w) (hl : AllLk Γ Δ) : At n F Δ a w := ⟨h.size, h.defers, h.own, h.sat.keep hl⟩
/-- A loop, by how many rounds are left at most. -/
theorem c_loop {c : Code} {Q : Exit → Act → World → Prop} (I : Nat → Act → World → Prop) (h0 : ∀ a w, ¬ I 0 a w)
    (round : ∀ k a w, I (k + 1) a w → c.wp P (Exit.then (I k) Q) a w) {k : Nat} {a : Act} {w : World} (h : I k a w) : (Code.loop c).wp P Q a w := by
  intro b K cs
  have key : ∀ k a w, I k a w → ∃ e a' w', Q e a' w' ∧ Arrives P (lone (b.at a (.code c :: .inLoop c :: K)) cs w) b K cs e a' w' := by
    intro k
    induction k with
    | zero => intro a w h; exact (h0 a w h).elim
    | succ k ih =>
      intro a w h
      obtain ⟨e, a₁, w₁, hq, harr⟩ := round k a w h b (.inLoop c :: K) cs
      cases e with
      | normal =>
        obtain ⟨e₂, a₂, w₂, hq₂, harr₂⟩ := ih a₁ w₁ hq
        exact ⟨e₂, a₂, w₂, hq₂, .of_steps (Steps.trans harr (.one step_inLoop)) harr₂⟩
      | exit id => exact ⟨_, a₁, w₁, hq, .pass (x := .inLoop c) rfl (fun _ _ => .inl (by simp)) harr⟩
      | goto l => exact ⟨_, a₁, w₁, hq, .pass (x := .inLoop c) rfl (fun _ _ => .inl (by simp)) harr⟩
      | ret => exact ⟨_, a₁, w₁, hq, .pass (x := .inLoop c) rfl (fun _ _ => .inl (by simp)) harr⟩
      | panic ch => exact ⟨_, a₁, w₁, hq, .pass (x := .inLoop c) rfl (fun _ _ => .inl (by simp)) harr⟩
      | outgrown => exact ⟨_, a₁, w₁, hq, .pass (x := .inLoop c) rfl (fun _ _ => .inl (by simp)) harr⟩
  obtain ⟨e, a', w', hq, harr⟩ := key k a w h
  exact ⟨e, a', w', hq, .of_steps (.one step_loop) harr⟩
end
end Go.Proofs.Ytkbilbeaedocjaa.Wh
