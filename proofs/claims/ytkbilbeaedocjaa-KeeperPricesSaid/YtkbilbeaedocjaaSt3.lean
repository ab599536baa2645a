/-
  What is proved: whole functions by states; calls that return what is the caller's own.
-/
import Derived.Test.YtkbilbeaedocjaaSt2
namespace Go.Proofs.Ytkbilbeaedocjaa.Wh
open Go Go.RowKit

theorem own_val {α : Type} [Enc α] {E B : Nat} {c c' : Mem} {w : World} {v : Value} {xs : List α} (h : Own E B c w v xs) (hc : Mem.le c c') (hs : ∀ b j u, ob v b = true → w.cell? ⟨b, j, none⟩ = some u → c' ⟨b, j, none⟩ = some u) : val c' v xs := by
  obtain ⟨cells, hr, hl⟩ := h.row
  show slice c' v xs
  rcases hr.2 with ⟨rfl, h0⟩ | ⟨g, cap, cur, rfl, _, _, hlc, hcm, _⟩
  · exact .inl ⟨none, 0, rfl, Nat.zero_le _, List.eq_nil_of_length_eq_zero h0⟩
  · refine .inr ⟨g, 0, cap, rfl, hlc, hcm, fun i hi => ?_⟩
    obtain ⟨vs, hrep, hv⟩ := hl.get i hi
    refine ⟨vs, Enc.mono hc hrep, fun j u e => ?_⟩
    rw [Nat.zero_add]
    exact hs g _ u (ob_iff.2 rfl) (cells_m hr rfl _ _ (hv j u e))
theorem ownT_val {α : Type} [Enc α] {RT E : TypeId} {B : Nat} {c c' : Mem} {w : World} {v : Value} {o : Nat → Bool} {rs : List Value} {rows : List (List α)} (h : OwnT RT E B c w v o rs rows) (hc : Mem.le c c') (hs : ∀ b j u, o b = true → w.cell? ⟨b, j, none⟩ = some u → c' ⟨b, j, none⟩ = some u) : val c' v rows := by
  obtain ⟨g1, g2, g3, g4, g5, g6⟩ := h.out
  have hrl : rs.length = rows.length := by rw [g1.1, Nat.mul_one]
  show slice c' v rows
  rcases g1.2 with ⟨hv, h0⟩ | ⟨g, cap, cur, hvv, _, _, hlc, hcm, _⟩
  · exact .inl ⟨none, 0, hv, Nat.zero_le _, List.eq_nil_of_length_eq_zero h0⟩
  · refine .inr ⟨g, 0, cap, hvv, hlc, hcm, fun i hi => ?_⟩
    have hii : i < rs.length := by omega
    obtain ⟨cells, hc1, hc2⟩ := g2 i rs[i] rows[i] (List.getElem?_eq_getElem hii) (List.getElem?_eq_getElem hi)
    have hgo : o g = true := g5 g (by rw [hvv]; rfl)
    refine ⟨[rs[i]], ?_, fun j u ej => ?_⟩
    · exact own_val (c := c) ⟨⟨cells, hc1, hc2⟩⟩ hc fun b j u hb hu => hs b j u (g6 i _ b (List.getElem?_eq_getElem hii) (ob_iff.1 hb)) hu
    · cases j with
      | zero =>
        simp at ej
        subst ej
        have : (0 + i * Enc.size (List α) + 0) = i := by show 0 + i * 1 + 0 = i; omega
        rw [this]
        exact hs g i _ hgo (cells_m g1 (by rw [hvv]; rfl) i _ (List.getElem?_eq_getElem hii))
      | succ j => simp at ej
section
variable {P : Program} {Γ : List (Nat × Pr)} {n : Nat} {F0 : Nat → Bool} {js : List Item} {w0 w : World} {a : Act} {ops : Array Oper} {Q : Exit → Act → World → Prop}
theorem St.at0 (h : St n F0 js Γ w0 a w) : At n F0 Γ a w :=
  ⟨h.at_.size, h.at_.defers, fun b hb => h.at_.own b (pf_iff.2 (.inl hb)), h.at_.sat.mono (v2_less fun _ hb => pf_iff.2 (.inl hb))⟩
theorem st_ret {fn : Func} {ρ : Pr} {v : Value} (h : St n F0 js Γ w0 a w) (hr : (results fn a.tmps).run P w = .ok v w) (hv : ρ.p (v2 F0 w) v) : Fin P fn F0 w0 ρ .ret a w := fin_ret h.at_.defers hr h.below hv
theorem st_normal {fn : Func} {ρ : Pr} {v : Value} (h : St n F0 js Γ w0 a w) (hr : (results fn a.tmps).run P w = .ok v w) (hv : ρ.p (v2 F0 w) v) : Fin P fn F0 w0 ρ .normal a w := fin_normal h.at_.defers hr h.below hv
theorem St.get (h : St n F0 js Γ w0 a w) {t : Nat} {φ : Pr} (e : lk Γ t = some φ) : φ.p (v2 F0 w) (tmp a t) := h.at0.get e
theorem st_cond {t : Nat} {b : Bool} {x y : Code} (h : St n F0 js Γ w0 a w) (e : lk Γ t = some (isV b)) (ht : b = true → x.wp P Q a w) (hf : b = false → y.wp P Q a w) : (Code.cond (.tmp t) x y).wp P Q a w := c_cond h.at_ e ht hf
theorem callS_of {f : FuncId} {fn : Func} {c : Code} {n : Nat} {φs : List Pr} {ρ : Pr} (hf : P.funcs[f]? = some fn) (hb : fn.body = some c) (hn : fn.ntmps = n) (hl : Nat.ble φs.length n = true)
    (h : ∀ (F0 : Nat → Bool) (w0 : World) (a : Act), St n F0 [] (zipG 0 φs) w0 a w0 → c.wp P (Fin P fn F0 w0 ρ) a w0) : CallOK P f φs ρ :=
  callOK_of hf hb hn hl fun F0 w0 a hF0 hA => h F0 w0 a (st_start hF0 hA)

/-! ### results of the caller's own -/
/-- What a call may return, as a thing of the caller's own. -/
structure ResI where
  /-- what the thing is: the value, and whatever else is said of it -/
  X : Type
  it : Value → X → Item
def CallI (P : Program) (f : FuncId) (φs : List Pr) (ρ : ResI) : Prop :=
  ∀ (F : Nat → Bool) (w : World) (vs : List Value), (∀ b, F b = true → b < w.heap.size) → Fit (v2 F w) φs vs →
    Calls P f vs.toArray w fun e w' => ∃ v x, e = .returned v ∧ Below w.heap.size w w' ∧ (ρ.it v x).p (vw (fun b => F b || (ρ.it v x).o b) w') w' ∧ ∀ b, (ρ.it v x).o b = true → w.heap.size ≤ b ∧ b < w'.heap.size
def resTab {α : Type} [Enc α] (RT E : TypeId) (rows : List (List α)) : ResI := ⟨(Nat → Bool) × List Value, fun v x => Item.tab RT E v x.1 x.2 rows⟩
def resSl {α : Type} [Enc α] (E : TypeId) (xs : List α) : ResI := ⟨Unit, fun v _ => Item.sl E v xs⟩
def FinI (P : Program) (fn : Func) (F0 : Nat → Bool) (w0 : World) (ρ : ResI) : Exit → Act → World → Prop :=
  bodyPost P fn fun e w' => ∃ v x, e = .returned v ∧ Below w0.heap.size w0 w' ∧ (ρ.it v x).p (vw (fun b => F0 b || (ρ.it v x).o b) w') w' ∧ ∀ b, (ρ.it v x).o b = true → w0.heap.size ≤ b ∧ b < w'.heap.size
theorem callI_of {f : FuncId} {fn : Func} {c : Code} {n : Nat} {φs : List Pr} {ρ : ResI} (hf : P.funcs[f]? = some fn) (hb : fn.body = some c) (hn : fn.ntmps = n) (hl : Nat.ble φs.length n = true)
    (h : ∀ (F0 : Nat → Bool) (w0 : World) (a : Act), St n F0 [] (zipG 0 φs) w0 a w0 → c.wp P (FinI P fn F0 w0 ρ) a w0) : CallI P f φs ρ := by
  intro F w vs hF hfit
  refine calls_of_wp hf hb (h F w _ (st_start hF ⟨?_, rfl, hF, ?_⟩))
  · have := hfit.len
    have := Nat.le_of_ble_eq_true hl
    simp [hn]; omega
  · intro t φ e
    have := sat_enter (c := v2 F w) (n := n - vs.length) 0 [] hfit rfl t φ e
    unfold tmp
    rw [Array.getD_eq_getD_getElem?]
    have e2 : ((vs.toArray ++ Array.replicate (fn.ntmps - vs.toArray.size) undef)[t]?) = ([] ++ vs ++ List.replicate (n - vs.length) undef)[t]? := by
      rw [← Array.getElem?_toList]; simp [hn]
    rw [e2]; exact this
theorem fin_item (k : Nat) {it : Item} (h : St n F0 js Γ w0 a w) (hk : js[k]? = some it) : it.p (vw (fun b => F0 b || it.o b) w) w ∧ ∀ b, it.o b = true → w0.heap.size ≤ b ∧ b < w.heap.size := by
  refine ⟨it.kept (h.it hk) (vw_less fun b hb => ?_) (Nat.le_refl _) (fun _ _ => rfl), fun b hb => ⟨h.low k it b hk hb, h.lt hk hb⟩⟩
  rw [Bool.or_eq_true] at hb
  rcases hb with hb | hb
  · exact pf_iff.2 (.inl hb)
  · exact pf_iff.2 (.inr ⟨k, it.o, its_at hk, hb⟩)
theorem st_retI {fn : Func} {ρ : ResI} (k : Nat) {v : Value} (x : ρ.X) (h : St n F0 js Γ w0 a w) (hr : (results fn a.tmps).run P w = .ok v w) (hk : js[k]? = some (ρ.it v x)) : FinI P fn F0 w0 ρ .ret a w :=
  ⟨h.at_.defers, v, hr, v, x, rfl, h.below, fin_item k h hk⟩
theorem st_normalI {fn : Func} {ρ : ResI} (k : Nat) {v : Value} (x : ρ.X) (h : St n F0 js Γ w0 a w) (hr : (results fn a.tmps).run P w = .ok v w) (hk : js[k]? = some (ρ.it v x)) : FinI P fn F0 w0 ρ .normal a w :=
  ⟨h.at_.defers, v, hr, v, x, rfl, h.below, fin_item k h hk⟩
theorem free_see {F : Nat → Bool} {w w' : World} {o : Nat → Bool} (hF : ∀ b, F b = true → b < w.heap.size) (ho : ∀ b, o b = true → w.heap.size ≤ b ∧ b < w'.heap.size) : ∀ b j u, o b = true → w'.cell? ⟨b, j, none⟩ = some u → vw F w' ⟨b, j, none⟩ = some u := by
  intro b j u hb hu
  unfold vw
  rw [if_neg]
  · exact hu
  · intro h
    have := hF b h
    have := (ho b hb).1
    omega
theorem callOK_tab {f : FuncId} {φs : List Pr} {α : Type} [Enc α] {RT E : TypeId} {rows : List (List α)} (h : CallI P f φs (resTab RT E rows)) : CallOK P f φs (isV rows) := fun F w vs hF hfit =>
  (h F w vs hF hfit).mono fun e w' ⟨v, x, he, hb, hp, ho⟩ => ⟨v, he, hb, ownT_val hp (vw_less fun b hb => by simp [hb]) (free_see hF ho)⟩
theorem callOK_sl {f : FuncId} {φs : List Pr} {α : Type} [Enc α] {E : TypeId} {xs : List α} (h : CallI P f φs (resSl E xs)) : CallOK P f φs (isV xs) := fun F w vs hF hfit =>
  (h F w vs hF hfit).mono fun e w' ⟨v, x, he, hb, hp, ho⟩ => ⟨v, he, hb, own_val hp (vw_less fun b hb => by simp [hb]) (free_see hF ho)⟩
variable {d : Nat} {t : TypeId} {ps : String} {af : Array Edge} {r : List Oper} {Δ : List (Nat × Pr)}
/-- 'd = f(..)', which returns a thing of the caller's own. -/
theorem s_callI {f : FuncId} {xs : Array Operand} {ts : Array TypeId} {φs : List Pr} {ρ : ResI} (he : Enters P f) (hc : CallI P f φs ρ) (h : St n F0 js Γ w0 a w) (hx : OdL Γ xs.toList φs) (hd : Nat.blt d n = true)
    (K : ∀ a' w' v x, St n F0 (js ++ [ρ.it v x]) ((d, Pr.is v) :: Γ) w0 a' w' → Mem.le (vw (pf F0 (Its js)) w) (vw (pf F0 (Its (js ++ [ρ.it v x]))) w') → wpList P ops Q r a' w') :
    wpList P ops Q (⟨some d, .call { callee := .value (.func f), args := xs, argTypes := ts }, t, ps, af, none⟩ :: r) a w := by
  have hm : ∀ xs, Met Γ xs (v2 (pf F0 (Its js)) w) a := h.at_.met
  have hfit := OdL.fit (hm (Op.call { callee := .value (.func f), args := xs, argTypes := ts }).operands.toList) hx (fun y hy => mem_call hy)
  have hrun : (execOp a.eval ⟨some d, .call { callee := .value (.func f), args := xs, argTypes := ts }, t, ps, af, none⟩).run P w = .ok (.enter f (xs.toList.map a.eval).toArray) w := by
    have h0 : a.eval (.func f) = .func (.func f) #[] #[] := rfl
    have h1 : xs.map a.eval = (xs.toList.map a.eval).toArray := by rw [← Array.toList_map]
    simp [execOp, resolve, h0, Deferred.ofValue, invoke, h1, he _ w]
  unfold wpList
  simp only [Region.wanted, if_true]
  refine .inl (wp_of_ex ?_)
  unfold Ex
  rw [hrun]
  refine (hc (pf F0 (Its js)) w _ h.at_.own hfit).mono fun e w' ⟨v, x, hev, hb, hp, ho⟩ => ⟨v, hev, ?_⟩
  have hpf : pf F0 (Its js ++ [(ρ.it v x).o]) = fun b => pf F0 (Its js) b || (ρ.it v x).o b := pf_push
  refine K _ _ v x (h.push hb ((at_push h.at_ hb ho).put (by simpa [Nat.blt_eq] using hd) rfl) (fun b hb => (ho b hb).1) (by rw [hpf]; exact hp) (vw_push hb fun b hb => (ho b hb).1)) (by rw [its_push]; exact vw_push hb fun b hb => (ho b hb).1)
end
end Go.Proofs.Ytkbilbeaedocjaa.Wh
