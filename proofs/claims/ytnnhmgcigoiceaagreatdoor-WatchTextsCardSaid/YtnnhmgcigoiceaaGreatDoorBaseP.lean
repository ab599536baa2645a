/-
  What is proved: copies into an own slice; calls that read a table of the library's, which is as it was when the caller's call began.
-/
import Derived.Test.YtnnhmgcigoiceaaGreatDoorBaseN
import Derived.Lib.AppendIntMem
import Derived.Lib.ItoaMem
namespace Go.Proofs.YtnnhmgcigoiceaaGreatDoor.Wh
open Go Go.RowKit

/-! ### calls that read the table of powers -/
/-- The table is there. -/
def TabT (P : Program) (w : World) : Prop := Go.Lib.TabIs P w "internal/strconv.uint64pow10" .u64 Go.Lib.pow10Tab ∧ (∃ t q, w.cell? ⟨0, 0, none⟩ = some (.iface t q)) ∧ (∃ t q, w.cell? ⟨1, 0, none⟩ = some (.iface t q))
theorem TabT.on {P : Program} {w w' : World} (h : TabT P w) (hb : Below w.heap.size w w') : TabT P w' :=
  ⟨Go.Lib.tabBelow_of_tabIs (P := P) (w := w) (name := "internal/strconv.uint64pow10") (k := .u64) (zs := Go.Lib.pow10Tab) h.1 w' hb.kit,
   h.2.1.imp fun _ h => h.imp fun _ h => (World.cell?_of_block (hb.block _ (cell_lt h))).trans h, h.2.2.imp fun _ h => h.imp fun _ h => (World.cell?_of_block (hb.block _ (cell_lt h))).trans h⟩
def CallT (P : Program) (f : FuncId) (φs : List Pr) (ρ : Pr) : Prop :=
  ∀ (F : Nat → Bool) (w : World) (vs : List Value), TabT P w → (∀ b, F b = true → b < w.heap.size) → Fit (v2 F w) φs vs →
    Calls P f vs.toArray w fun e w' => ∃ v, e = .returned v ∧ Below w.heap.size w w' ∧ ρ.p (v2 F w') v
section
variable {P : Program} {Γ : List (Nat × Pr)} {n : Nat} {F0 : Nat → Bool} {js : List Item} {w0 w : World} {a : Act} {ops : Array Oper} {Q : Exit → Act → World → Prop} {ty : TypeId}
variable {t : TypeId} {ps : String} {af : Array Edge} {r : List Oper} {Δ : List (Nat × Pr)} {d : Nat}
theorem callT_of {f : FuncId} {fn : Func} {c : Code} {n : Nat} {φs : List Pr} {ρ : Pr} (hf : P.funcs[f]? = some fn) (hb : fn.body = some c) (hn : fn.ntmps = n) (hl : Nat.ble φs.length n = true)
    (h : ∀ (F0 : Nat → Bool) (w0 : World) (a : Act), TabT P w0 → St n F0 [] (zipG 0 φs) w0 a w0 → c.wp P (Fin P fn F0 w0 ρ) a w0) : CallT P f φs ρ := by
  intro F w vs hT hF hfit
  refine calls_of_wp hf hb (h F w _ hT (st_start hF ⟨?_, rfl, hF, ?_⟩))
  · have := hfit.len
    have := Nat.le_of_ble_eq_true hl
    simp [hn]; omega
  · intro t φ e
    have := sat_enter (c := v2 F w) (n := n - vs.length) 0 [] hfit rfl t φ e
    unfold tmp
    rw [Array.getD_eq_getD_getElem?]
    have e2 : ((vs.toArray ++ Array.replicate (fn.ntmps - vs.toArray.size) undef)[t]?) = ([] ++ vs ++ List.replicate (n - vs.length) undef)[t]? := by
      rw [← Array.getElem?_toList]; simp [hn]
    rw [e2]; exact this
theorem s_callT {f : FuncId} {xs : Array Operand} {ts : Array TypeId} {φs : List Pr} {ρ : Pr} (he : Enters P f) (hc : CallT P f φs ρ) (hT : TabT P w0) (h : St n F0 js Γ w0 a w) (hx : OdL Γ xs.toList φs) (hd : Nat.blt d n = true)
    (K : ∀ a' w', St n F0 js ((d, ρ) :: Γ) w0 a' w' → Mem.le (vw (pf F0 (Its js)) w) (vw (pf F0 (Its js)) w') → wpList P ops Q r a' w') :
    wpList P ops Q (⟨some d, .call { callee := .value (.func f), args := xs, argTypes := ts }, t, ps, af, none⟩ :: r) a w := by
  have hm : ∀ xs, Met Γ xs (v2 (pf F0 (Its js)) w) a := h.at_.met
  have hfit := OdL.fit (hm (Op.call { callee := .value (.func f), args := xs, argTypes := ts }).operands.toList) hx (fun y hy => mem_call hy)
  have hrun : (execOp a.eval ⟨some d, .call { callee := .value (.func f), args := xs, argTypes := ts }, t, ps, af, none⟩).run P w = .ok (.enter f (xs.toList.map a.eval).toArray) w := by
    have h0 : a.eval (.func f) = .func (.func f) #[] #[] := rfl
    have h1 : xs.map a.eval = (xs.toList.map a.eval).toArray := by rw [← Array.toList_map]
    simp [execOp, resolve, h0, Deferred.ofValue, invoke, h1, he _ w]
  unfold wpList
  simp only [Region.wanted, if_true]
  refine .inl (wp_of_ex ?_)
  unfold Ex
  rw [hrun]
  refine (hc (pf F0 (Its js)) w _ (hT.on h.below) h.at_.own hfit).mono fun e w' ⟨v, hev, hb, hp⟩ => ⟨v, hev, ?_⟩
  exact K _ _ (h.grow hb (h.at_.step (d := some d) hb (fun k e => by cases e; simpa [Nat.blt_eq] using hd) hp)) (vw_below hb)

/-! ### copies into an own slice, of elements of one cell -/
theorem St.shape {α : Type} [Enc α] {E : TypeId} {k : Nat} {v : Value} {xs : List α} (h : St n F0 js Γ w0 a w) (hk : js[k]? = some (Item.sl E v xs)) (hx : xs ≠ []) : ∃ g cap, v = .slice (some ⟨g, 0, none⟩) xs.length cap ∧ xs.length ≤ cap := by
  have hO : Own E 0 (vw (pf F0 (Its js)) w) w v xs := h.it hk
  obtain ⟨cells, ⟨_, hr⟩, _⟩ := hO.row
  rcases hr with ⟨_, h0⟩ | ⟨g, cap, cur, hv, _, _, hle, _⟩
  · exact absurd (List.eq_nil_of_length_eq_zero h0) hx
  · exact ⟨g, cap, hv, hle⟩
/-- The last elements of an own slice. -/
theorem sp_tail {x lo : Operand} {T E : TypeId} {g len cap : Nat} {m : Int} {α : Type} [Enc α] (h1 : Enc.size α = 1) (hT : SlP P T E α) (hx : Od Γ x (Pr.is (.slice (some ⟨g, 0, none⟩) len cap))) (hh : Od Γ lo (isV m)) (h0 : 0 ≤ m) (hm : m.toNat < len) (hc : len ≤ cap) :
    StepP P (.slice T x (some lo) none none) ty Γ (Pr.is (.slice (some ⟨g, m.toNat, none⟩) (len - m.toNat) (cap - m.toNat))) :=
  step_pure fun c w a hc' hm' => by
    have hv : a.eval x = .slice (some ⟨g, 0, none⟩) len cap := hx.get hm' (by simp [Op.operands])
    have hk := get_int hh hm' (by simp [Op.operands])
    have hi : 0 ≤ m ∧ m ≤ (len : Int) := ⟨h0, by omega⟩
    have hne : ¬ (cap - m.toNat = 0) := by omega
    refine ⟨_, ?_, rfl⟩
    simp [execOp, plain, hv, hk, Instr.sliceAt, Instr.slice, Instr.sliceBounds, Instr.sliceBound, asIntOf, run_underlying hT.desc, hT.elem.sizeOf w, hi, h1, Addr.add_lit, hne]
    omega
theorem repL_app {α : Type} [Enc α] {c : Mem} : ∀ {l1 l2 : List Value} {x1 x2 : List α}, RepL c l1 x1 → RepL c l2 x2 → RepL c (l1 ++ l2) (x1 ++ x2)
  | _, _, [], _, h1, h2 => by cases h1; exact h2
  | _, _, x :: r, _, ⟨v1, v2, he, h3, h4⟩, h2 => by
    subst he
    exact ⟨v1, v2 ++ _, by rw [List.append_assoc], h3, repL_app h4 h2⟩
theorem s_copyO {dd : Option Nat} {k g cap off m mc len : Nat} {T T2 E : TypeId} {x y : Operand} {α : Type} [Enc α] {xs ys : List α} (hd : ∀ q, dd = some q → q < n) (h1 : Enc.size α = 1) (hlen0 : xs.length = len) (hT : SlP P T E α) (h : St n F0 js Γ w0 a w)
    (hk : js[k]? = some (Item.sl E (.slice (some ⟨g, 0, none⟩) len cap) xs)) (hl : AllOd Γ Δ) (hC : AllC Δ)
    (hx : Od Γ x (Pr.is (.slice (some ⟨g, off, none⟩) m mc))) (hoff : off + m = len)
    (hsrc : ∃ ad cc news, a.eval y = .slice ad ys.length cc ∧ RepL (vw (pf F0 (Its js)) w) news (ys.take m) ∧ (Builtin.firstCells 1 (min ys.length m) (.slice ad ys.length cc)).run P w = .ok news.toArray w)
    (K : ∀ a' w', St n F0 (js.set k (Item.sl E (.slice (some ⟨g, 0, none⟩) len cap) (xs.take off ++ ys.take m ++ xs.drop (off + (ys.take m).length)))) (upd Δ dd (isV ((min ys.length m : Nat) : Int))) w0 a' w' →
      Mem.le (vw (pf F0 (Its js)) w) (vw (pf F0 (Its (js.set k (Item.sl E (.slice (some ⟨g, 0, none⟩) len cap) (xs.take off ++ ys.take m ++ xs.drop (off + (ys.take m).length)))))) w') → wpList P ops Q r a' w') :
    wpList P ops Q (⟨dd, .call { callee := .builtin .copy, args := #[x, y], argTypes := #[T, T2] }, t, ps, af, none⟩ :: r) a w := by
  subst hlen0
  have h' := h.weak hl
  have hxv : a.eval x = .slice (some ⟨g, off, none⟩) m mc := hx.get (h.at_.met [x]) (by simp)
  obtain ⟨i, hi, hsz⟩ := hT.elem.info
  obtain ⟨ad, cc, news, ey, hnr, hnc⟩ := hsrc
  have hO := own_up (h.it hk) (B := w0.heap.size) (fun b hb => h.low k _ b hk hb)
  obtain ⟨cells, ⟨hcl, hr0⟩, hrl⟩ := hO.row
  rcases hr0 with ⟨hn, _⟩ | ⟨g', cap', cur, hv, hBg, hheap, hlc, hcm, hcs, htake⟩
  · cases hn
  cases hv
  rw [h1, Nat.mul_one] at hcs htake hcl
  have hnl : news.length = (ys.take m).length := by rw [RepL.len hnr, h1, Nat.mul_one]
  have hnm : (ys.take m).length ≤ m := by rw [List.length_take]; omega
  have hst := run_storeCells_at P g off E news 0 cur w hheap (by omega) hnr.cell
  simp only [Nat.add_zero] at hst
  have hmin : Nat.min ys.length m = min ys.length m := rfl
  rw [← h1, ← hsz] at hnc
  have hr : (execOp a.eval ⟨dd, .call { callee := .builtin .copy, args := #[x, y], argTypes := #[T, T2] }, t, ps, af, none⟩).run P w = .ok (.value (goInt (min ys.length m : Nat))) (w.setRow g (cur.toList.take off ++ news ++ cur.toList.drop (off + news.length)).toArray) := by
    simp [execOp, resolve, invoke, builtin, Builtin.copy_, hxv, ey, run_underlying hT.desc, sizeOf, typeInfo, hi, Builtin.lenOf, hmin, hnc, hst]
  unfold wpList
  simp only [Region.wanted, if_true]
  refine .inl (wp_of_ex ?_)
  unfold Ex
  rw [hr]
  generalize hcat : cur.toList.take off ++ news ++ cur.toList.drop (off + news.length) = cat
  have hblk : ∀ q, q < w.heap.size → ob (.slice (some ⟨g, 0, none⟩) xs.length cap) q = false → (w.setRow g cat.toArray).heap[q]? = w.heap[q]? := fun q _ hq => setRow_other _ _ _ _ (fun e => by subst e; simp [ob, Value.ownBlock] at hq)
  have hset := set_self (its_at hk)
  have hle := vw_turn (F0 := F0) (its_at hk) hblk (o' := ob (.slice (some ⟨g, 0, none⟩) xs.length cap)) (fun q hq => .inl hq)
  have hsize : (w.setRow g cat.toArray).heap.size = w.heap.size := by simp
  have hB : Below w0.heap.size w0 (w.setRow g cat.toArray) := h.below.trans ⟨rfl, rfl, rfl, by rw [hsize]; exact Nat.le_refl _, fun q hq => setRow_other _ _ _ _ (fun e => by omega), Nat.le_refl _⟩
  have hA : At n (pf F0 ((Its js).set k (ob (.slice (some ⟨g, 0, none⟩) xs.length cap)))) Δ a (w.setRow g cat.toArray) := h'.at_.turn hC hle fun q hq => by
    rw [hsize]
    have e : (Its js).set k (ob (.slice (some ⟨g, 0, none⟩) xs.length cap)) = Its js := hset
    rw [e] at hq
    exact h.at_.own q hq
  have hlen : (xs.take off ++ ys.take m ++ xs.drop (off + (ys.take m).length)).length = xs.length := by
    simp only [List.length_append, List.length_take, List.length_drop]; omega
  have hcur : cur.toList.length = cap := by simpa using hcs
  have hrep : RepL (vw (pf F0 (Its js)) w) (cells.take off ++ news ++ cells.drop (off + (ys.take m).length)) (xs.take off ++ ys.take m ++ xs.drop (off + (ys.take m).length)) := by
    have q1 := repL_take hrl off
    have q2 := repL_drop hrl (off + (ys.take m).length)
    rw [h1, Nat.mul_one] at q1 q2
    exact repL_app (repL_app q1 hnr) q2
  refine K _ _ (h'.change hk (it' := Item.sl E (.slice (some ⟨g, 0, none⟩) xs.length cap) (xs.take off ++ ys.take m ++ xs.drop (off + (ys.take m).length))) (hA.step (Below.refl _ _) hd rfl) hB (by rw [hsize]; exact Nat.le_refl _) (fun q hq => .inl hq)
    ⟨⟨cells.take off ++ news ++ cells.drop (off + (ys.take m).length), ⟨?_, .inr ⟨g, cap, cat.toArray, by rw [hlen], Nat.zero_le _, setRow_heap w g cur _ E _ hheap, by rw [hlen]; exact hlc, hcm, ?_, ?_⟩⟩, hrep.mono hle⟩⟩ hblk hle) ?_
  · rw [RepL.len hrep]
  · rw [← hcat, h1, Nat.mul_one]
    simp only [List.size_toArray, List.length_append, List.length_take, List.length_drop, hcur]
    omega
  · rw [hlen, h1, Nat.mul_one, ← htake, ← hcat, ← hnl]
    show (cur.toList.take off ++ news ++ cur.toList.drop (off + news.length)).take xs.length = _
    apply List.ext_getElem?
    intro q
    simp only [List.getElem?_take, List.getElem?_append, List.length_take, List.length_append, List.getElem?_drop, hcur]
    have e1 : min off cap = off := by omega
    have e2 : min off (min xs.length cap) = off := by omega
    rw [e1, e2]
    split <;> split <;> (try split) <;> first | rfl | (congr 1; omega) | omega | skip
    all_goals (first | (exfalso; omega) | (rw [if_pos (by omega)]; congr 1; omega) | skip)
  · rw [its_set]; exact hle
/-- The source is a list that is written no more. -/
theorem src_list {m : Nat} {y : Operand} {α : Type} [Enc α] {ys : List α} (h1 : Enc.size α = 1) (h : St n F0 js Γ w0 a w) (hy : Od Γ y (isV ys)) :
    ∃ ad cc news, a.eval y = .slice ad ys.length cc ∧ RepL (vw (pf F0 (Its js)) w) news (ys.take m) ∧ (Builtin.firstCells 1 (min ys.length m) (.slice ad ys.length cc)).run P w = .ok news.toArray w := by
  have hyv : slice (vw (pf F0 (Its js)) w) (a.eval y) ys := hy.get (h.at_.met [y]) (by simp)
  rcases hyv with ⟨a0, cap, hv, _, rfl⟩ | ⟨b', off', cap, hv, _, _, hh⟩
  · refine ⟨a0, cap, [], hv, by simp [RepL], ?_⟩
    simp only [List.length_nil, Nat.zero_min]
    cases a0 with
    | none => simp [Builtin.firstCells]
    | some p => exact run_firstCells_some w 1 0 p 0 cap [] (by simp) (fun j u e => by simp at e)
  · obtain ⟨cs, q1, q2⟩ := slice_cells (c := vw (pf F0 (Its js)) w) (b := b') (off := off') ys 0 (fun i hi => by simpa using hh i hi)
    have ht := repL_take q1 m
    have e : (ys.take m).length = min ys.length m := by rw [List.length_take]; omega
    have el : (cs.take (m * Enc.size α)).length = min ys.length m * Enc.size α := by rw [RepL.len ht, e]
    refine ⟨_, cap, cs.take (m * Enc.size α), hv, ht, ?_⟩
    refine run_firstCells_some w 1 (min ys.length m) _ ys.length cap _ (by rw [el, h1]) (fun j u e => ?_)
    have e' : cs[j]? = some u := by
      rw [List.getElem?_take] at e
      split at e
      · exact e
      · cases e
    have := vw_cell (q2 j u e')
    rw [Addr.add_lit]; simpa using this
/-- The source is the beginning of the own slice itself: what is there is told by another list. -/
theorem src_own {k g cap q qc m len : Nat} {E : TypeId} {y : Operand} {α : Type} [Enc α] {xs ys : List α} (h1 : Enc.size α = 1) (hlen0 : xs.length = len) (h : St n F0 js Γ w0 a w) (hk : js[k]? = some (Item.sl E (.slice (some ⟨g, 0, none⟩) len cap) xs)) (hy : Od Γ y (Pr.is (.slice (some ⟨g, 0, none⟩) q qc)))
    (hq : ys = xs.take q) (hl : q ≤ len) :
    ∃ ad cc news, a.eval y = .slice ad ys.length cc ∧ RepL (vw (pf F0 (Its js)) w) news (ys.take m) ∧ (Builtin.firstCells 1 (min ys.length m) (.slice ad ys.length cc)).run P w = .ok news.toArray w := by
  subst hlen0
  have hyv : a.eval y = .slice (some ⟨g, 0, none⟩) q qc := hy.get (h.at_.met [y]) (by simp)
  have hO := own_up (h.it hk) (B := w0.heap.size) (fun b hb => h.low k _ b hk hb)
  obtain ⟨cells, ⟨hcl, hr0⟩, hrl⟩ := hO.row
  rcases hr0 with ⟨hn, _⟩ | ⟨g', cap', cur, hv, hBg, hheap, hlc, hcm, hcs, htake⟩
  · cases hn
  cases hv
  rw [h1, Nat.mul_one] at hcs htake hcl
  subst hq
  have hql : (xs.take q).length = q := by rw [List.length_take]; omega
  have q1 := repL_take (repL_take hrl q) m
  rw [h1, Nat.mul_one, Nat.mul_one] at q1
  refine ⟨_, qc, (cells.take q).take m, by rw [hql]; exact hyv, q1, ?_⟩
  rw [hql]
  refine run_firstCells_some w 1 (min q m) _ q qc _ (by simp only [List.length_take, Nat.mul_one]; omega) (fun j u e => ?_)
  have e' : cells[j]? = some u := by
    rw [List.getElem?_take] at e
    split at e
    · rw [List.getElem?_take] at e
      split at e
      · exact e
      · cases e
    · cases e
  rw [← htake, List.getElem?_take] at e'
  split at e'
  · rw [Addr.add_lit, cell_of_row w g _ cur E (0, 0) hheap]
    simpa using e'
  · cases e'
theorem bin_str {x y : Operand} {T T' : TypeId} {bop : BinOp} {m n : ByteArray} {v : Value} {φ : Pr} (hx : Od Γ x (isV m)) (hy : Od Γ y (isV n))
    (hr : ∀ w, (binOp bop T (.string m) (.string n)).run P w = .ok v w) (hv : ∀ c, φ.p c v) : StepP P (.binOp bop T x y T') ty Γ φ :=
  step_pure fun c w a hc hm => by
    have h1 : a.eval x = .string m := hx.get hm (by simp [Op.operands])
    have h2 : a.eval y = .string n := hy.get hm (by simp [Op.operands])
    refine ⟨v, ?_, hv c⟩
    simp only [execOp, plain, h1, h2]
    cases bop <;> simp [eqGuard, hr]
theorem sp_eqlStr {x y : Operand} {T T' : TypeId} {m n : ByteArray} (hx : Od Γ x (isV m)) (hy : Od Γ y (isV n)) : StepP P (.binOp .eql T x y T') ty Γ (isV (m == n)) :=
  bin_str hx hy (v := .bool (m == n)) (fun w => by simp [binOp, Op.stringOp, beq_toListBytes]) (fun _ => rfl)
theorem sp_neqStr {x y : Operand} {T T' : TypeId} {m n : ByteArray} (hx : Od Γ x (isV m)) (hy : Od Γ y (isV n)) : StepP P (.binOp .neq T x y T') ty Γ (isV (m != n)) :=
  bin_str hx hy (v := .bool (m != n)) (fun w => by simp [binOp, Op.stringOp, bne, beq_toListBytes]) (fun _ => rfl)
end
end Go.Proofs.YtnnhmgcigoiceaaGreatDoor.Wh
