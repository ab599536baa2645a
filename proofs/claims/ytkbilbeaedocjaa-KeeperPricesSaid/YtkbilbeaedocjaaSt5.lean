/-
  What is proved: arrays; places in own slices as addresses; callees that write to an own slice.
-/
import Derived.Test.YtkbilbeaedocjaaSt4
namespace Go.Proofs.Ytkbilbeaedocjaa.Wh
open Go Go.RowKit

instance {α : Type} [Enc α] {n : Nat} : Enc (Vector α n) where
  size := n * Enc.size α
  agg := true
  rep c vs x := RepL c vs x.toList
  len h := by rw [RepL.len h]; simp
  mono hc h := h.mono hc
  cell h := h.cell
  one h := by cases h
/-- An array type, its elements. -/
structure ArP (P : Program) (T E : TypeId) (n : Nat) (α : Type) [Enc α] : Prop where
  desc : P.underlying T = some (.array n E)
  elem : TyP P E α
  pos : Nat.blt 1 n = true
theorem rep_vec {α : Type} [Enc α] {n : Nat} {c : Mem} {vs : List Value} {x : Vector α n} {k : Int} {y : α} (h : Enc.rep c vs x) (he : idxA x k = some y) : k.toNat < n ∧ 0 ≤ k ∧ ∃ us, Enc.rep c us y ∧ ∀ j u, us[j]? = some u → vs[k.toNat * Enc.size α + j]? = some u := by
  obtain ⟨h0, hlt, h1⟩ := idx_some he
  obtain ⟨us, h2, h3⟩ := RepL.get (show RepL c vs x.toList from h) k.toNat hlt
  rw [h1] at h2
  exact ⟨by simpa using hlt, h0, us, h2, h3⟩
section
variable {P : Program} {Γ : List (Nat × Pr)} {ty : TypeId}
theorem sp_indexAddrA {α : Type} [Enc α] {x k : Operand} {T E : TypeId} {n : Nat} {v : Vector α n} {i : Int} {y : α} (hT : ArP P T E n α) (hx : Od Γ x (isA v)) (hk : Od Γ k (isV i)) (h : idxA v i = some y) : StepP P (.indexAddr T x k) ty Γ (isA y) :=
  step_pure fun c w a hc hm => by
    have hkv := get_int hk hm (by simp [Op.operands])
    obtain ⟨b, off, hv, vs, hr, hh⟩ := hx.get hm (by simp [Op.operands])
    obtain ⟨hlt, h0, us, h2, h3⟩ := rep_vec hr h
    refine ⟨.pointer (some ⟨b, off + i.toNat * Enc.size α, none⟩), ?_, b, _, rfl, us, h2, fun j u e => ?_⟩
    · have hi : 0 ≤ i ∧ i < (n : Int) := ⟨h0, by omega⟩
      simp [execOp, plain, hkv, hv, Instr.indexAt, Instr.sureAddr, asIntOf, run_underlying hT.desc, hi, hT.elem.sizeOf w, Addr.add_lit]
    · have := hh _ _ (h3 j u e)
      rw [Nat.add_assoc]; exact this
theorem sp_indexAddrAB {α : Type} [Enc α] {x k : Operand} {T E : TypeId} {n : Nat} {v : Vector α n} {i : Int} {y : α} (hT : ArP P T E n α) (hx : Od Γ x (isB v)) (hk : Od Γ k (isV i)) (h : idxA v i = some y) : StepP P (.indexAddr T x k) ty Γ (isB y) :=
  step_pure fun c w a hc hm => by
    have hkv := get_int hk hm (by simp [Op.operands])
    obtain ⟨b, off, vs, hv, hr, hh⟩ := hx.get hm (by simp [Op.operands])
    obtain ⟨hlt, h0, us, h2, h3⟩ := rep_vec hr h
    refine ⟨.pointer (some ⟨b, off + i.toNat * Enc.size α, none⟩), ?_, b, _, us, rfl, h2, fun j u e => ?_⟩
    · have hi : 0 ≤ i ∧ i < (n : Int) := ⟨h0, by omega⟩
      simp [execOp, plain, hkv, hv, Instr.indexAt, Instr.sureAddr, asIntOf, run_underlying hT.desc, hi, hT.elem.sizeOf w, Addr.add_lit]
    · have := hh _ _ (h3 j u e)
      rw [Nat.add_assoc]; exact this
theorem odEAB {α : Type} [Enc α] {x : Operand} {v : Value} {j : Nat} {y : α} (h : Od Γ x (isEA v j y)) : Od Γ x (isB y) := by
  have h2 : ∀ (c : Mem2) (u : Value), (isEA v j y).p c u → (isB y).p c u := fun c u ⟨b, _, _, vs, _, h2, h3, h4⟩ => ⟨b, _, vs, h2, h3, h4⟩
  cases x with
  | tmp t => obtain ⟨ψ, hl, hk⟩ := h; exact ⟨ψ, hl, fun c v k => h2 c v (hk c v k)⟩
  | const v => exact fun c => h2 c _ (h c)
  | global g => exact fun c => h2 c _ (h c)
  | func f => exact fun c => h2 c _ (h c)
theorem odTAB {α : Type} [Enc α] {x : Operand} {rs : List Value} {i j : Nat} {y : α} (h : Od Γ x (isTA rs i j y)) : Od Γ x (isB y) := by
  have h2 : ∀ (c : Mem2) (u : Value), (isTA rs i j y).p c u → (isB y).p c u := fun c u ⟨b, _, _, vs, _, h2, h3, h4⟩ => ⟨b, _, vs, h2, h3, h4⟩
  cases x with
  | tmp t => obtain ⟨ψ, hl, hk⟩ := h; exact ⟨ψ, hl, fun c v k => h2 c v (hk c v k)⟩
  | const v => exact fun c => h2 c _ (h c)
  | global g => exact fun c => h2 c _ (h c)
  | func f => exact fun c => h2 c _ (h c)
end
/-! ### callees that write to an own slice -/
def CallM (P : Program) (f : FuncId) (E : TypeId) {α : Type} [Enc α] (xs zs : List α) (φs : List Pr) : Prop :=
  ∀ (F : Nat → Bool) (w : World) (v : Value) (vs : List Value), (∀ b, F b = true → b < w.heap.size) → (∀ b, ob v b = true → F b = true) → Own E 0 (vw F w) w v xs → Fit (v2 F w) φs vs →
    Calls P f (v :: vs).toArray w fun e w' => e = .returned (.tuple #[]) ∧ (∀ B, B ≤ w.heap.size → (∀ b, ob v b = true → B ≤ b) → Below B w w') ∧ (∀ b, b < w.heap.size → ob v b = false → w'.heap[b]? = w.heap[b]?) ∧ Own E 0 (vw F w') w' v zs
section
variable {P : Program} {Γ Δ : List (Nat × Pr)} {n : Nat} {F0 : Nat → Bool} {js : List Item} {w0 w : World} {a : Act} {ops : Array Oper} {Q : Exit → Act → World → Prop}
variable {t : TypeId} {ps : String} {af : Array Edge} {r : List Oper}
theorem s_callMd {d : Option Nat} {k f : Nat} {x : Operand} {xs : List Operand} {ts : Array TypeId} {φs : List Pr} {α : Type} [Enc α] {E : TypeId} {v : Value} {ys zs : List α} (hd : ∀ q, d = some q → q < n) (he : Enters P f) (hc : CallM P f E ys zs φs) (h : St n F0 js Γ w0 a w) (hk : js[k]? = some (Item.sl E v ys)) (hl : AllOd Γ Δ) (hC : AllC Δ)
    (hx : Od Δ x (Pr.is v)) (hxs : OdL Δ xs φs)
    (K : ∀ a' w', St n F0 (js.set k (Item.sl E v zs)) (upd Δ d Pr.top) w0 a' w' → Mem.le (vw (pf F0 (Its js)) w) (vw (pf F0 (Its (js.set k (Item.sl E v zs)))) w') → wpList P ops Q r a' w') :
    wpList P ops Q (⟨d, .call { callee := .value (.func f), args := (x :: xs).toArray, argTypes := ts }, t, ps, af, none⟩ :: r) a w := by
  have h' := h.weak hl
  have hm : ∀ xs, Met Δ xs (v2 (pf F0 (Its js)) w) a := h'.at_.met
  have hxv : a.eval x = v := hx.get (hm (Op.call { callee := .value (.func f), args := (x :: xs).toArray, argTypes := ts }).operands.toList) (mem_call (by simp))
  have hfit := OdL.fit (hm (Op.call { callee := .value (.func f), args := (x :: xs).toArray, argTypes := ts }).operands.toList) hxs (fun y hy => mem_call (by simp [hy]))
  have hob : ∀ b, ob v b = true → pf F0 (Its js) b = true := fun b hb => pf_iff.2 (.inr ⟨k, ob v, its_at hk, hb⟩)
  have hrun : (execOp a.eval ⟨d, .call { callee := .value (.func f), args := (x :: xs).toArray, argTypes := ts }, t, ps, af, none⟩).run P w = .ok (.enter f (v :: xs.map a.eval).toArray) w := by
    have h0 : a.eval (.func f) = .func (.func f) #[] #[] := rfl
    have h1 : ((x :: xs).toArray).map a.eval = (v :: xs.map a.eval).toArray := by simp [hxv]
    simp only [execOp, resolve, h0, Deferred.ofValue, invoke]
    simp [hxv, he _ w]
  unfold wpList
  simp only [Region.wanted, if_true]
  refine .inl (wp_of_ex ?_)
  unfold Ex
  rw [hrun]
  refine (hc (pf F0 (Its js)) w v _ h'.at_.own hob (h'.it hk) hfit).mono fun e w' ⟨he', hB, hblk, hO⟩ => ⟨_, he', ?_⟩
  have hB0 := hB w0.heap.size h'.below.size (fun b hb => h'.low k _ b hk hb)
  have hsz := hB0.size
  have hs : (Its js).set k (ob v) = Its js := set_self (its_at hk)
  have hle : Mem.le (vw (pf F0 (Its js)) w) (vw (pf F0 (Its js)) w') := by
    intro p u e
    unfold vw at *
    split at e
    · cases e
    · rename_i hf
      rw [if_neg hf]
      have hlt := cell_lt e
      rw [← e]
      exact World.cell?_of_block (hblk _ hlt (by cases hq : ob v p.block with | false => rfl | true => exact absurd (hob _ hq) hf))
  have hA : At n (pf F0 ((Its js).set k (ob v))) Δ a w' := by
    rw [hs]
    exact h'.at_.turn hC hle fun b hb => Nat.lt_of_lt_of_le (h'.at_.own b hb) hsz
  have hA' : At n (pf F0 ((Its js).set k (ob v))) (upd Δ d Pr.top) (a.put d (.tuple #[])) w' := hA.step (Below.refl _ _) hd trivial
  have hset : (Its js).set k (ob v) = Its js := hs
  refine K _ w' (h'.change (it' := Item.sl E v zs) hk hA' (h'.below.trans hB0) hsz (fun b hb => .inl hb) ?_ hblk ?_) ?_
  · show Own E 0 (vw (pf F0 ((Its js).set k (ob v))) w') w' v zs
    rw [hset]; exact hO
  · show Mem.le _ (vw (pf F0 ((Its js).set k (ob v))) w')
    rw [hset]; exact hle
  · rw [its_set]
    show Mem.le _ (vw (pf F0 ((Its js).set k (ob v))) w')
    rw [hset]; exact hle
theorem s_callM {d : Nat} {k f : Nat} {x : Operand} {xs : List Operand} {ts : Array TypeId} {φs : List Pr} {α : Type} [Enc α] {E : TypeId} {v : Value} {ys zs : List α} (he : Enters P f) (hc : CallM P f E ys zs φs) (h : St n F0 js Γ w0 a w) (hk : js[k]? = some (Item.sl E v ys)) (hl : AllOd Γ Δ) (hC : AllC Δ)
    (hx : Od Δ x (Pr.is v)) (hxs : OdL Δ xs φs) (hd : Nat.blt d n = true)
    (K : ∀ a' w', St n F0 (js.set k (Item.sl E v zs)) ((d, Pr.top) :: Δ) w0 a' w' → Mem.le (vw (pf F0 (Its js)) w) (vw (pf F0 (Its (js.set k (Item.sl E v zs)))) w') → wpList P ops Q r a' w') :
    wpList P ops Q (⟨some d, .call { callee := .value (.func f), args := (x :: xs).toArray, argTypes := ts }, t, ps, af, none⟩ :: r) a w :=
  s_callMd (d := some d) (fun q e => by cases e; simpa [Nat.blt_eq] using hd) he hc h hk hl hC hx hxs K
theorem s_callM0 {k f : Nat} {x : Operand} {xs : List Operand} {ts : Array TypeId} {φs : List Pr} {α : Type} [Enc α] {E : TypeId} {v : Value} {ys zs : List α} (he : Enters P f) (hc : CallM P f E ys zs φs) (h : St n F0 js Γ w0 a w) (hk : js[k]? = some (Item.sl E v ys)) (hl : AllOd Γ Δ) (hC : AllC Δ)
    (hx : Od Δ x (Pr.is v)) (hxs : OdL Δ xs φs)
    (K : ∀ a' w', St n F0 (js.set k (Item.sl E v zs)) Δ w0 a' w' → Mem.le (vw (pf F0 (Its js)) w) (vw (pf F0 (Its (js.set k (Item.sl E v zs)))) w') → wpList P ops Q r a' w') :
    wpList P ops Q (⟨none, .call { callee := .value (.func f), args := (x :: xs).toArray, argTypes := ts }, t, ps, af, none⟩ :: r) a w :=
  s_callMd (d := none) (fun q e => by cases e) he hc h hk hl hC hx hxs K
end
end Go.Proofs.Ytkbilbeaedocjaa.Wh
