/-
  What is proved: calls that change what they are handed: a callee's things lie ahead of a frame that it does not know; the order of things does not matter.
-/
import Derived.Test.YtkbilbeaedocjaaBaseG
namespace Go.Proofs.Ytkbilbeaedocjaa.Wh
open Go Go.RowKit

/-! ### the order of things -/
theorem pf_congr {F0 : Nat → Bool} {os os' : List (Nat → Bool)} (h : ∀ o, o ∈ os' ↔ o ∈ os) : pf F0 os' = pf F0 os := by
  funext b
  apply Bool.eq_iff_iff.2
  rw [pf_iff, pf_iff]
  constructor
  · rintro (h1 | ⟨j, o, hj, hb⟩)
    · exact .inl h1
    · obtain ⟨i, hi⟩ := List.mem_iff_getElem?.1 ((h o).1 (List.mem_of_getElem? hj))
      exact .inr ⟨i, o, hi, hb⟩
  · rintro (h1 | ⟨j, o, hj, hb⟩)
    · exact .inl h1
    · obtain ⟨i, hi⟩ := List.mem_iff_getElem?.1 ((h o).2 (List.mem_of_getElem? hj))
      exact .inr ⟨i, o, hi, hb⟩
section
variable {P : Program} {Γ : List (Nat × Pr)} {n : Nat} {F0 : Nat → Bool} {js : List Item} {w0 w : World} {a : Act} {ops : Array Oper} {Q : Exit → Act → World → Prop}
theorem St.reindex {js' : List Item} (h : St n F0 js Γ w0 a w) (σ : Nat → Nat) (hi : ∀ (i : Nat) (it : Item), js'[i]? = some it → js[σ i]? = some it) (hinj : ∀ i j, i < js'.length → j < js'.length → σ i = σ j → i = j) (hs : ∀ it ∈ js, it ∈ js') : St n F0 js' Γ w0 a w := by
  have e : pf F0 (Its js') = pf F0 (Its js) := pf_congr fun o => by
    constructor
    · intro ho
      obtain ⟨it, hm, rfl⟩ := List.mem_map.1 ho
      obtain ⟨i, hk⟩ := List.mem_iff_getElem?.1 hm
      exact List.mem_map.2 ⟨it, List.mem_of_getElem? (hi i it hk), rfl⟩
    · intro ho
      obtain ⟨it, hm, rfl⟩ := List.mem_map.1 ho
      exact List.mem_map.2 ⟨it, hs it hm, rfl⟩
  refine ⟨by rw [e]; exact h.at_, fun i j o u ho hu hij b hb => ?_, fun k it hk => by rw [e]; exact h.own (σ k) it (hi k it hk), fun k it b hk hb => h.low (σ k) it b (hi k it hk) hb, h.below, h.base⟩
  obtain ⟨x, hx, rfl⟩ := its_get ho
  obtain ⟨y, hy, rfl⟩ := its_get hu
  exact h.apart (σ i) (σ j) _ _ (its_at (hi i x hx)) (its_at (hi j y hy)) (fun q => hij (hinj i j (List.getElem?_eq_some_iff.1 hx).1 (List.getElem?_eq_some_iff.1 hy).1 q)) b hb
/-- One thing to the front. -/
theorem st_front {it : Item} (k : Nat) (h : St n F0 js Γ w0 a w) (hk : js[k]? = some it) : St n F0 (it :: js.eraseIdx k) Γ w0 a w := by
  have hkl : k < js.length := (List.getElem?_eq_some_iff.1 hk).1
  refine h.reindex (fun i => match i with | 0 => k | i + 1 => if i < k then i else i + 1) (fun i u hu => ?_) (fun i j hi hj e => ?_) fun u hu => ?_
  · cases i with
    | zero => simp at hu; subst hu; exact hk
    | succ i =>
      simp only [List.getElem?_cons_succ, List.getElem?_eraseIdx] at hu
      show js[if i < k then i else i + 1]? = some u
      split at hu
      · rename_i q; rw [if_pos q]; exact hu
      · rename_i q; rw [if_neg q]; exact hu
  · cases i with
    | zero =>
      cases j with
      | zero => rfl
      | succ j =>
        have e : k = if j < k then j else j + 1 := e
        split at e <;> omega
    | succ i =>
      cases j with
      | zero =>
        have e : (if i < k then i else i + 1) = k := e
        split at e <;> omega
      | succ j =>
        have e : (if i < k then i else i + 1) = if j < k then j else j + 1 := e
        split at e <;> split at e <;> omega
  · obtain ⟨i, hi⟩ := List.mem_iff_getElem?.1 hu
    by_cases q : i = k
    · subst q; rw [hk] at hi; cases hi; simp
    · refine List.mem_cons_of_mem _ (List.mem_iff_getElem?.2 ⟨if i < k then i else i - 1, ?_⟩)
      rw [List.getElem?_eraseIdx]
      by_cases q2 : i < k
      · rw [if_pos q2, if_pos q2]; exact hi
      · rw [if_neg q2, if_neg (by omega), show i - 1 + 1 = i by omega]; exact hi
/-- What came last, to a place. -/
theorem st_rot {it : Item} (k : Nat) (h : St n F0 (js ++ [it]) Γ w0 a w) (hk : Nat.ble k js.length = true) : St n F0 (js.take k ++ it :: js.drop k) Γ w0 a w := by
  have hk := Nat.le_of_ble_eq_true hk
  have hl : (js.take k).length = k := by rw [List.length_take]; omega
  refine h.reindex (fun i => if i < k then i else if i = k then js.length else i - 1) (fun i u hu => ?_) (fun i j hi hj e => ?_) fun u hu => ?_
  · show (js ++ [it])[if i < k then i else if i = k then js.length else i - 1]? = some u
    rw [List.getElem?_append, hl] at hu
    by_cases q : i < k
    · rw [if_pos q] at hu ⊢
      rw [List.getElem?_take, if_pos q] at hu
      rw [List.getElem?_append_left (by omega)]; exact hu
    · rw [if_neg q] at hu ⊢
      by_cases q2 : i = k
      · rw [if_pos q2, List.getElem?_append_right (Nat.le_refl _), Nat.sub_self]
        rw [q2, Nat.sub_self] at hu
        simpa using hu
      · rw [if_neg q2]
        obtain ⟨m, hm⟩ : ∃ m, i - k = m + 1 := ⟨i - k - 1, by omega⟩
        rw [hm, List.getElem?_cons_succ, List.getElem?_drop, show k + m = i - 1 by omega] at hu
        rw [List.getElem?_append_left (List.getElem?_eq_some_iff.1 hu).1]; exact hu
  · rw [List.length_append, hl, List.length_cons, List.length_drop] at hi hj
    split at e
    · split at e
      · exact e
      · split at e <;> omega
    · split at e
      · split at e
        · omega
        · split at e <;> omega
      · split at e
        · omega
        · split at e <;> omega
  · rcases List.mem_append.1 hu with q | q
    · rw [← List.take_append_drop k js] at q
      rcases List.mem_append.1 q with q | q
      · exact List.mem_append_left _ q
      · exact List.mem_append_right _ (List.mem_cons_of_mem _ q)
    · simp at q; subst q
      exact List.mem_append_right _ (List.mem_cons_self ..)
/-! ### calls that change things -/
structure Wst (F0 : Nat → Bool) (js : List Item) (w0 w : World) : Prop where
  lt : ∀ b, pf F0 (Its js) b = true → b < w.heap.size
  apart : Apart (Its js)
  own : ∀ (k : Nat) (it : Item), js[k]? = some it → it.p (vw (pf F0 (Its js)) w) w
  low : ∀ (k : Nat) (it : Item) (b : Nat), js[k]? = some it → it.o b = true → w0.heap.size ≤ b
  below : Below w0.heap.size w0 w
  base : ∀ b, F0 b = true → b < w0.heap.size
theorem St.wst (h : St n F0 js Γ w0 a w) : Wst F0 js w0 w := ⟨h.at_.own, h.apart, h.own, h.low, h.below, h.base⟩
/-- What a call leaves: things and a result; what else is said of them. -/
structure ResF where
  X : Type
  js : X → List Item
  φ : X → Pr
def CallF (P : Program) (f : FuncId) (js : List Item) (φs : List Pr) (ρ : ResF) : Prop :=
  ∀ (F0 : Nat → Bool) (fr : List Item) (w0 w : World) (vs : List Value), Wst F0 (js ++ fr) w0 w → Fit (v2 (pf F0 (Its (js ++ fr))) w) φs vs →
    Calls P f vs.toArray w fun e w' => ∃ v x, e = .returned v ∧ Wst F0 (ρ.js x ++ fr) w0 w' ∧ Mem.le (vw (pf F0 (Its (js ++ fr))) w) (vw (pf F0 (Its (ρ.js x ++ fr))) w') ∧ (ρ.φ x).p (v2 (pf F0 (Its (ρ.js x ++ fr))) w') v
/-- What was seen is still seen. -/
def Pr.seen (c0 : Mem) : Pr := ⟨fun c _ => Mem.le c0 c.c, fun hc h => Mem.le_trans h hc.1⟩
def FinF (P : Program) (fn : Func) (F0 : Nat → Bool) (fr : List Item) (w0 : World) (c0 : Mem) (ρ : ResF) : Exit → Act → World → Prop :=
  bodyPost P fn fun e w' => ∃ v x, e = .returned v ∧ Wst F0 (ρ.js x ++ fr) w0 w' ∧ Mem.le c0 (vw (pf F0 (Its (ρ.js x ++ fr))) w') ∧ (ρ.φ x).p (v2 (pf F0 (Its (ρ.js x ++ fr))) w') v
theorem callF_of {f : FuncId} {fn : Func} {c : Code} {n : Nat} {φs : List Pr} {ρ : ResF} (hf : P.funcs[f]? = some fn) (hb : fn.body = some c) (hn : fn.ntmps = n) (hl : Nat.ble φs.length n = true)
    (h : ∀ (F0 : Nat → Bool) (fr : List Item) (w0 w : World) (c0 : Mem) (a : Act), St n F0 (js ++ fr) (zipG 0 φs ++ [(1000000, Pr.seen c0)]) w0 a w → c.wp P (FinF P fn F0 fr w0 c0 ρ) a w) : CallF P f js φs ρ := by
  intro F0 fr w0 w vs hW hfit
  refine calls_of_wp hf hb (h F0 fr w0 w (vw (pf F0 (Its (js ++ fr))) w) _ ⟨⟨?_, rfl, hW.lt, ?_⟩, hW.apart, hW.own, hW.low, hW.below, hW.base⟩)
  · have := hfit.len
    have := Nat.le_of_ble_eq_true hl
    simp [hn]; omega
  · intro t φ e
    have key : ∀ (Γ1 : List (Nat × Pr)) (Γ2 : List (Nat × Pr)), lk (Γ1 ++ Γ2) t = some φ → lk Γ1 t = some φ ∨ lk Γ2 t = some φ := by
      intro Γ1
      induction Γ1 with
      | nil => intro Γ2 h; exact .inr h
      | cons x r ih =>
        intro Γ2 h
        obtain ⟨s, ψ⟩ := x
        simp only [List.cons_append, lk] at h ⊢
        cases hbq : Nat.beq s t with
        | true => rw [hbq] at h; exact .inl h
        | false => rw [hbq] at h; exact ih Γ2 h
    rcases key _ _ e with e | e
    · have := sat_enter (c := v2 (pf F0 (Its (js ++ fr))) w) (n := n - vs.length) 0 [] hfit rfl t φ e
      unfold tmp
      rw [Array.getD_eq_getD_getElem?]
      have e2 : ((vs.toArray ++ Array.replicate (fn.ntmps - vs.toArray.size) undef)[t]?) = ([] ++ vs ++ List.replicate (n - vs.length) undef)[t]? := by
        rw [← Array.getElem?_toList]; simp [hn]
      rw [e2]; exact this
    · simp only [lk] at e
      cases hbq : Nat.beq 1000000 t with
      | true =>
        rw [hbq] at e
        simp only [cond_true, Option.some.injEq] at e
        subst e
        exact Mem.le_refl _
      | false => rw [hbq] at e; cases e
theorem st_retF {fn : Func} {fr : List Item} {c0 : Mem} {ρ : ResF} {v : Value} (x : ρ.X) (h : St n F0 (ρ.js x ++ fr) Γ w0 a w) (hr : (results fn a.tmps).run P w = .ok v w) (hs : lk Γ 1000000 = some (Pr.seen c0)) (hv : (ρ.φ x).p (v2 (pf F0 (Its (ρ.js x ++ fr))) w) v) : FinF P fn F0 fr w0 c0 ρ .ret a w :=
  ⟨h.at_.defers, v, hr, v, x, rfl, h.wst, h.at_.sat 1000000 _ hs, hv⟩
theorem st_normalF {fn : Func} {fr : List Item} {c0 : Mem} {ρ : ResF} {v : Value} (x : ρ.X) (h : St n F0 (ρ.js x ++ fr) Γ w0 a w) (hr : (results fn a.tmps).run P w = .ok v w) (hs : lk Γ 1000000 = some (Pr.seen c0)) (hv : (ρ.φ x).p (v2 (pf F0 (Its (ρ.js x ++ fr))) w) v) : FinF P fn F0 fr w0 c0 ρ .normal a w :=
  ⟨h.at_.defers, v, hr, v, x, rfl, h.wst, h.at_.sat 1000000 _ hs, hv⟩
/-- A function value, known by its function and by what it holds. -/
def Pr.clo (g : FuncId) (κs : List Pr) : Pr := ⟨fun c v => ∃ cap : Array Value, v = .func (.func g) #[] cap ∧ Fit ⟨c.c, c.c⟩ κs cap.toList,
  fun {c c' _} hc ⟨cap, h1, h2⟩ => ⟨cap, h1, Fit.mono (c := ⟨c.c, c.c⟩) (c' := ⟨c'.c, c'.c⟩) ⟨hc.1, hc.1⟩ h2⟩⟩
theorem sp_makeClo {ty : TypeId} {g : FuncId} {xs : Array Operand} {κs : List Pr} (hC : OnlyC κs) (hx : OdL Γ xs.toList κs) : StepP P (.makeFunc (.func g) #[] xs) ty Γ (Pr.clo g κs) :=
  step_pure fun c w a hc hm => by
    have hfit := hx.fit hm (fun y hy => by simpa [Op.operands] using hy)
    exact ⟨.func (.func g) #[] (xs.map a.eval), by simp [execOp, plain, Instr.makeFunc], _, rfl, Fit.only hC (by simpa using hfit)⟩
variable {t : TypeId} {ps : String} {af : Array Edge} {r : List Oper} {Δ : List (Nat × Pr)}
theorem s_callF {d f : Nat} {g : Operand} {xs : Array Operand} {ts : Array TypeId} {φs κs : List Pr} {js1 fr : List Item} {ρ : ResF} (he : Enters P f) (hc : CallF P f js1 (φs ++ κs) ρ) (h : St n F0 (js1 ++ fr) Γ w0 a w) (hl : AllOd Γ Δ) (hC : AllC Δ)
    (hg : Od Δ g (Pr.clo f κs)) (hx : OdL Δ xs.toList φs) (hd : Nat.blt d n = true)
    (K : ∀ a' w' x, St n F0 (ρ.js x ++ fr) ((d, ρ.φ x) :: Δ) w0 a' w' → Mem.le (vw (pf F0 (Its (js1 ++ fr))) w) (vw (pf F0 (Its (ρ.js x ++ fr))) w') → wpList P ops Q r a' w') :
    wpList P ops Q (⟨some d, .call { callee := .value g, args := xs, argTypes := ts }, t, ps, af, none⟩ :: r) a w := by
  have h' := h.weak hl
  have hm : ∀ xs, Met Δ xs (v2 (pf F0 (Its (js1 ++ fr))) w) a := h'.at_.met
  have hfit := OdL.fit (hm (Op.call { callee := .value g, args := xs, argTypes := ts }).operands.toList) hx (fun y hy => mem_call hy)
  obtain ⟨cap, hv, hk⟩ := hg.get (hm (Op.call { callee := .value g, args := xs, argTypes := ts }).operands.toList) (by simp [Op.operands, Call.operands])
  have hrun : (execOp a.eval ⟨some d, .call { callee := .value g, args := xs, argTypes := ts }, t, ps, af, none⟩).run P w = .ok (.enter f (xs.toList.map a.eval ++ cap.toList).toArray) w := by
    have h1 : xs.map a.eval ++ cap = (xs.toList.map a.eval ++ cap.toList).toArray := by
      apply Array.ext'; simp
    simp [execOp, resolve, hv, Deferred.ofValue, invoke, h1, he _ w]
  unfold wpList
  simp only [Region.wanted, if_true]
  refine .inl (wp_of_ex ?_)
  unfold Ex
  rw [hrun]
  refine (hc F0 fr w0 w _ h'.wst (hfit.append (Fit.mono (c := ⟨vw (pf F0 (Its (js1 ++ fr))) w, vw (pf F0 (Its (js1 ++ fr))) w⟩) (c' := v2 (pf F0 (Its (js1 ++ fr))) w) ⟨Mem.le_refl _, fun _ _ h => vw_cell h⟩ hk))).mono fun e w' ⟨v, x, hev, hW, hM, hp⟩ => ⟨v, hev, ?_⟩
  have hA : At n (pf F0 (Its (ρ.js x ++ fr))) Δ a w' := h'.at_.turn hC hM hW.lt
  exact K _ w' x ⟨hA.put (by simpa [Nat.blt_eq] using hd) hp, hW.apart, hW.own, hW.low, hW.below, hW.base⟩ hM
end
end Go.Proofs.Ytkbilbeaedocjaa.Wh
