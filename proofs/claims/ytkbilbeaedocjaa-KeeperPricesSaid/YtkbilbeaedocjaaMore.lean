/-
  What is proved: made slices, lengths of own slices, variables laid and set, freezing.
-/
import Derived.Test.YtkbilbeaedocjaaOwn
import Derived.Great.BuildSlice
namespace Go.Proofs.Ytkbilbeaedocjaa.Wh
open Go Go.RowKit

theorem elim_again {σ ρ β : Type} {s : σ} {f : σ → β} {g : ρ → β} {z : β} (h : Out.elim (.again s) f g = z) : f s = z := h
theorem elim_leave {σ ρ β : Type} {r : ρ} {f : σ → β} {g : ρ → β} {z : β} (h : Out.elim (.leave r : Out σ ρ) f g = z) : g r = z := h
theorem sum_inl {α β γ : Type} {x : α} {f : α → γ} {g : β → γ} {z : γ} (h : sumE (.inl x) f g = z) : f x = z := h
theorem sum_inr {α β γ : Type} {x : β} {f : α → γ} {g : β → γ} {z : γ} (h : sumE (.inr x) f g = z) : g x = z := h
theorem cells_one {α : Type} [Enc α] {c : Mem} {v : Value} {x : α} (ha : Enc.agg α = false) (h : val c v x) : v.cells = #[v] := by
  unfold val at h
  rw [ha] at h
  have := Enc.cell h v (by simp)
  cases v <;> first | rfl | cases this
section
variable {P : Program} {Γ : List (Nat × Pr)} {ty : TypeId}
theorem fit_repL {α : Type} [Enc α] {c : Mem2} : ∀ {ds : List α} {vs : List Value}, Fit c (ds.map isV) vs → RepL c.c (vs.flatMap fun v => v.cells.toList) ds ∧ ∀ v ∈ vs, v.cells.size = Enc.size α
  | [], [], _ => ⟨rfl, fun v hv => by cases hv⟩
  | d :: _, v :: _, h => by
    obtain ⟨h1, h2⟩ := fit_repL h.2
    have hc := val_cells h.1
    refine ⟨⟨_, _, rfl, hc, h1⟩, fun u hu => ?_⟩
    rcases List.mem_cons.1 hu with rfl | hu
    · have := Enc.len hc; simpa using this
    · exact h2 u hu
  | [], _ :: _, h => h.elim
  | _ :: _, [], h => h.elim
theorem slice_new {α : Type} [Enc α] {F : Nat → Bool} {w : World} (hF : ∀ b, F b = true → b < w.heap.size) {cells : List Value} {ds : List α} {E : TypeId} (h : RepL (vw F w) cells ds) (hm : ds.length ≤ maxLen) :
    slice (vw F (w.alloc (.cells cells.toArray E))) (.slice (some ⟨w.heap.size, 0, none⟩) ds.length ds.length) ds := by
  refine .inr ⟨_, 0, _, rfl, Nat.le_refl _, hm, fun i hi => ?_⟩
  obtain ⟨vs, hr, hv⟩ := h.get i hi
  refine ⟨vs, Enc.mono (vw_below (below_alloc w _)) hr, fun j v e => ?_⟩
  rw [vw_new hF, cell_new, Nat.zero_add]
  simpa using hv j v e
theorem sp_buildSlice {T E : TypeId} {α : Type} [Enc α] {n : Nat} {parts : Array (Nat × Operand)} (os : List Operand) (ds : List α) (hT : SlP P T E α) (hz : ZeroP P E α)
    (hp : parts.toList = (os.zipIdx 0).map fun x => (x.2, x.1)) (hn : n = os.length) (hpos : Nat.blt 0 n = true) (hsm : Nat.ble (n * Enc.size α) 16777216 = true) (hx : OdL Γ os (ds.map isV)) : StepP P (.buildSlice T n parts) ty Γ (isV ds) := by
  intro F w a hF hm
  obtain ⟨i, z, hi, hzz, hsz, hzs, hps, _⟩ := hz.out
  have hfit := OdL.fit hm hx (fun y hy => by
    simp only [Op.operands, List.toList_toArray, hp, List.map_map, List.mem_map]
    obtain ⟨k, hk, he⟩ := List.getElem_of_mem hy
    refine ⟨(y, k), ?_, rfl⟩
    rw [List.mem_zipIdx_iff_getElem?]
    simp [← he])
  obtain ⟨hrl, hcs⟩ := fit_repL hfit
  have hlen : ds.length = n := by have := hfit.len; simp at this; omega
  have hpos' : 0 < n := by simpa [Nat.blt_eq] using hpos
  have hsm' := Nat.le_of_ble_eq_true hsm
  have hprt : (parts.map fun (i, x) => (i, a.eval x)).toList = ((os.map a.eval).zipIdx 0).map fun x => (x.2, x.1) := by
    rw [Array.toList_map, hp]
    apply List.ext_getElem?
    intro k
    simp [List.getElem?_zipIdx]
    cases os[k]? <;> simp
  have hfill := Go.Great.fill_whole (s := i.size) (by rw [hsz]; exact hps) (os.map a.eval) ((Array.range (n * i.size)).map (z.cells[· % z.cells.size]!)) (fun v hv => by rw [hsz]; exact hcs v hv) (by simp [hn])
  have hr := run_buildSlice (P := P) w T E n (parts.map fun (i, x) => (i, a.eval x)) _ i z hT.desc hi hzz (by rw [hsz]; omega) (by rw [hsz]; exact Nat.ne_of_gt (Nat.mul_pos hpos' hps)) (by rw [hprt]; exact hfill)
  unfold Ex
  have hrun : (execOp a.eval (plain (.buildSlice T n parts) ty)).run P w = .ok (.value (.slice (some ⟨w.heap.size, 0, none⟩) n n)) (w.alloc (.cells ((os.map a.eval).flatMap fun v => v.cells.toList).toArray E)) := by
    simp only [execOp, plain, Sem.run_bind, hr, Result.andThen_ok, Sem.run_pure]
  rw [hrun]
  refine ⟨below_alloc _ _, ?_⟩
  have := slice_new (E := E) hF hrl (by unfold maxLen; have : n ≤ n * Enc.size α := Nat.le_mul_of_pos_right _ hps; omega)
  rw [hlen] at this
  exact this
theorem sp_buildSlice0 {T E : TypeId} {α : Type} [Enc α] (hT : SlP P T E α) : StepP P (.buildSlice T 0 #[]) ty Γ (isV ([] : List α)) := by
  intro F w a hF hm
  obtain ⟨i, hi, hsz⟩ := hT.elem.info
  unfold Ex
  have hrun : (execOp a.eval (plain (.buildSlice T 0 #[]) ty)).run P w = .ok (.value (.slice (some ⟨w.heap.size, 0, none⟩) 0 0)) (w.alloc (.cells #[] E)) := by
    have hz0 : Array.map (fun _ : Nat => (default : Value)) (Array.range 0) = #[] := Array.eq_empty_of_size_eq_zero (by simp)
    simp [execOp, plain, Instr.buildSlice, run_underlying hT.desc, sizeOf, typeInfo, hi, Instr.fill, newRow, hz0]
  rw [hrun]
  exact ⟨below_alloc _ _, .inl ⟨_, 0, rfl, Nat.zero_le _, rfl⟩⟩
theorem sp_len_is {α : Type} [Enc α] {x : Operand} {T E E' : TypeId} {B : Nat} {c : Mem} {w0 : World} {v : Value} {xs : List α} (hO : Own E' B c w0 v xs) (hT : P.underlying T = some (.slice E)) (hx : Od Γ x (Pr.is v)) : StepP P (.call { callee := .builtin .len, args := #[x], argTypes := #[T] }) ty Γ (isV (xs.length : Int)) :=
  step_pure fun c w a hc hm => by
    have h1 : a.eval x = v := hx.get hm (by simp [Op.operands, Call.operands])
    have hv : ∃ a' cap, v = .slice a' xs.length cap := by
      obtain ⟨cells, hr, _⟩ := hO.row
      rcases hr.2 with ⟨rfl, h0⟩ | ⟨g, cap, cur, rfl, _⟩
      · exact ⟨none, 0, by rw [h0]⟩
      · exact ⟨_, cap, rfl⟩
    obtain ⟨a', cap, rfl⟩ := hv
    refine ⟨.int .i64 xs.length, ?_, rfl⟩
    simp [execOp, plain, resolve, invoke, builtin, Builtin.len_, h1, run_underlying hT, goInt]
theorem sp_convI {x : Operand} {T T' : TypeId} {n : Int} (hT : P.underlying T = some (.int .i64)) (hT' : P.underlying T' = some (.int .i64)) (hx : Od Γ x (isV n)) : StepP P (.convert T T' x) ty Γ (isV (wr n)) :=
  step_pure fun c w a hc hm => by
    have h1 := get_int hx hm (by simp [Op.operands])
    exact ⟨.int .i64 (wr n), by simp [execOp, plain, h1, convert, run_underlying hT, run_underlying hT', Conv.intToInt, wr], rfl⟩

/-! ### own things: begun, given up, frozen -/
theorem pf_nil {F0 : Nat → Bool} : pf F0 [] = F0 := by funext b; simp [pf]
theorem at_pf {n : Nat} {F0 : Nat → Bool} {a : Act} {w : World} (h : At n F0 Γ a w) : At n (pf F0 []) Γ a w := by rw [pf_nil]; exact h
theorem at_unpf {n : Nat} {F0 : Nat → Bool} {a : Act} {w : World} (h : At n (pf F0 []) Γ a w) : At n F0 Γ a w := by rw [pf_nil] at h; exact h
theorem pf_push_nil {F0 : Nat → Bool} {os : List (Nat → Bool)} : pf F0 (os ++ [ob (.slice none 0 0)]) = pf F0 os := by funext b; simp [pf, ob, Value.ownBlock]
theorem at_own_nil {n : Nat} {F0 : Nat → Bool} {os : List (Nat → Bool)} {a : Act} {w : World} (h : At n (pf F0 os) Γ a w) : At n (pf F0 (os ++ [ob (.slice none 0 0)])) Γ a w := by rw [pf_push_nil]; exact h
theorem apart_push_nil {F0 : Nat → Bool} {n : Nat} {os : List (Nat → Bool)} {a : Act} {w : World} (h : Apart os) (hA : At n (pf F0 os) Γ a w) : Apart (os ++ [ob (.slice none 0 0)]) :=
  apart_push h hA.own fun b hb => by simp [ob, Value.ownBlock] at hb
theorem own_push {α : Type} [Enc α] {E B : Nat} {F0 : Nat → Bool} {os : List (Nat → Bool)} {w : World} {v : Value} {xs : List α} (h : Own E B (vw (pf F0 os) w) w v xs) : Own E B (vw (pf F0 (os ++ [ob (.slice none 0 0)])) w) w v xs := by rw [pf_push_nil]; exact h
theorem at_drop {n : Nat} {F0 : Nat → Bool} {os : List (Nat → Bool)} {a : Act} {w : World} (k : Nat) (h : At n (pf F0 os) Γ a w) : At n (pf F0 (os.eraseIdx k)) Γ a w :=
  ⟨h.size, h.defers, fun b hb => h.own b (pf_erase hb), h.sat.mono (v2_less fun _ hb => pf_erase hb)⟩
theorem own_drop {α : Type} [Enc α] {E B : Nat} {F0 : Nat → Bool} {os : List (Nat → Bool)} {w : World} {v : Value} {xs : List α} (k : Nat) (h : Own E B (vw (pf F0 os) w) w v xs) : Own E B (vw (pf F0 (os.eraseIdx k)) w) w v xs :=
  own_kept h (vw_less fun _ hb => pf_erase hb) fun _ _ => rfl
theorem erase_out {os : List (Nat → Bool)} {k : Nat} {o : Nat → Bool} {F0 : Nat → Bool} (hD : Apart os) (hk : os[k]? = some o) {b : Nat} (hb : o b = true) (h0 : F0 b = false) : pf F0 (os.eraseIdx k) b = false := by
  cases hq : pf F0 (os.eraseIdx k) b with
  | false => rfl
  | true =>
    exfalso
    rcases pf_iff.1 hq with hq | ⟨i, u, hi, hu⟩
    · rw [h0] at hq; cases hq
    · rw [List.getElem?_eraseIdx] at hi
      split at hi
      · have := hD k i o u hk hi (by omega) b hb
        rw [this] at hu; cases hu
      · have := hD k (i + 1) o u hk hi (by omega) b hb
        rw [this] at hu; cases hu
theorem at_freeze {α : Type} [Enc α] {E : TypeId} {n t k : Nat} {F0 : Nat → Bool} {v : Value} {os : List (Nat → Bool)} {a : Act} {w w0 : World} {xs : List α} (hF0 : ∀ b, F0 b = true → b < w0.heap.size) (hD : Apart os) (hk : os[k]? = some (ob v))
    (hO : Own E w0.heap.size (vw (pf F0 os) w) w v xs) (h : At n (pf F0 os) Γ a w) (e : lk Γ t = some (Pr.is v)) : At n (pf F0 (os.eraseIdx k)) ((t, isV xs) :: Γ) a w := by
  have h1 := at_drop k h
  refine ⟨h1.size, h1.defers, h1.own, fun s φ hs => ?_⟩
  unfold lk at hs
  cases hb : Nat.beq t s with
  | true =>
    rw [hb] at hs
    simp only [cond_true, Option.some.injEq] at hs
    have := Nat.eq_of_beq_eq_true hb
    subst hs; subst this
    have hv : tmp a t = v := h.sat t _ e
    rw [hv]
    refine own_free hO (fun b hb => pf_erase hb) (fun q hq => erase_out hD hk (ob_iff.2 hq) ?_)
    cases hf : F0 q with
    | false => rfl
    | true => have := (own_lt hO (ob_iff.2 hq)).1; have := hF0 q hf; omega
  | false => rw [hb] at hs; exact h1.sat s φ hs
/-- Another own slice behind a change. -/
theorem own_other {α : Type} [Enc α] {E B k j : Nat} {os : List (Nat → Bool)} {o : Nat → Bool} {c c' : Mem} {w w' : World} {u : Value} {xs : List α} (hD : Apart os) (hk : os[k]? = some o) (hj : os[j]? = some (ob u)) (hkj : Nat.beq j k = false) (h : Own E B c w u xs)
    (hg : ∀ b, b < w.heap.size → o b = false → w'.heap[b]? = w.heap[b]?) (hc : Mem.le c c') : Own E B c' w' u xs :=
  own_kept h hc fun b hb => hg b (own_lt h hb).2 (hD j k _ o hj hk (fun e => by subst e; simp at hkj) b hb)
/-- A variable that is laid and set at once, and read thereafter. -/
theorem l_allocStore {ops : Array Oper} {d n : Nat} {T : TypeId} {x : Operand} {α : Type} [Enc α] {t t' : TypeId} {ps ps' : String} {af af' : Array Edge} {r : List Oper} {F : Nat → Bool} {a : Act} {w w0 : World} {Q : Exit → Act → World → Prop} {e : α}
    (hz : ZeroP P T α) (hx : Od Γ x (isV e)) (hne : ∀ k, x = .tmp k → Nat.beq d k = false) (hA : At n F Γ a w) (hB : Below w0.heap.size w0 w) (hd : Nat.blt d n = true)
    (k : ∀ a' w', Below w.heap.size w w' → Below w0.heap.size w0 w' → At n F ((d, isA e) :: Γ) a' w' → wpList P ops Q r a' w') :
    wpList P ops Q (⟨some d, .alloc T, t, ps, af, none⟩ :: ⟨none, .store T (.tmp d) x, t', ps', af', none⟩ :: r) a w := by
  obtain ⟨i, z, hi, hzz, hsz, hzs, hps, _⟩ := hz.out
  have hm : ∀ xs, Met Γ xs (v2 F w) a := hA.met
  have hxv : val (vw F w) (a.eval x) e := hx.get (hm [x]) (by simp)
  have hdn : d < a.tmps.size := by rw [hA.size]; simpa [Nat.blt_eq] using hd
  have hr1 : (execOp a.eval ⟨some d, .alloc T, t, ps, af, none⟩).run P w = .ok (.value (.pointer (some ⟨w.heap.size, 0, none⟩))) (w.alloc (.cells z.cells T)) := by
    simp [execOp, Instr.alloc, zeroValue, typeInfo, hi, hzz, newVar, newRow]
  have hcells := val_cells hxv
  have hlen := Enc.len hcells
  have hone := Enc.cell hcells
  have hev : (a.put (some d) (.pointer (some ⟨w.heap.size, 0, none⟩))).eval x = a.eval x := Act.eval_put fun d' hd' hxe => by
    cases hd'
    have := hne d hxe
    simp at this
  have hed : (a.put (some d) (.pointer (some ⟨w.heap.size, 0, none⟩))).eval (.tmp d) = .pointer (some ⟨w.heap.size, 0, none⟩) := by
    have := tmp_put (a := a) (d := d) (t := d) (v := .pointer (some ⟨w.heap.size, 0, none⟩)) hdn
    rw [if_pos rfl] at this
    exact this
  have hst := run_storeCells_at P w.heap.size 0 T (a.eval x).cells.toList 0 z.cells (w.alloc (.cells z.cells T)) (heap_alloc_new w _) (by rw [hlen, hzs]; omega) hone
  have hr2 : (execOp (a.put (some d) (.pointer (some ⟨w.heap.size, 0, none⟩))).eval ⟨none, .store T (.tmp d) x, t', ps', af', none⟩).run P (w.alloc (.cells z.cells T)) =
      .ok .skip ((w.alloc (.cells z.cells T)).setRow w.heap.size (z.cells.toList.take 0 ++ (a.eval x).cells.toList ++ z.cells.toList.drop (0 + (a.eval x).cells.toList.length)).toArray) := by
    have hcs : (a.eval x).cells.size = i.size := by rw [hsz, ← hlen]; simp
    simp only [Nat.add_zero] at hst
    simp only [execOp, hed, hev, Instr.storeAt, Instr.sureAddr, storeVar, sizeOf, typeInfo, Sem.run_bind, run_program, Result.andThen_ok, hi, Sem.run_pure]
    simp [hcs, hst]
  unfold wpList
  simp only [Region.wanted, if_true]
  refine .inl (wp_of_ex ?_)
  unfold Ex
  rw [hr1]
  unfold wpList
  simp only [Region.wanted, if_true]
  refine .inl (wp_of_ex ?_)
  unfold Ex
  rw [hr2]
  have hcat : z.cells.toList.take 0 ++ (a.eval x).cells.toList ++ z.cells.toList.drop (0 + (a.eval x).cells.toList.length) = (a.eval x).cells.toList := by
    rw [List.take_zero, List.nil_append, List.drop_eq_nil_of_le (by rw [hlen]; simp [hzs]), List.append_nil]
  rw [hcat]
  have hbw : Below w.heap.size w ((w.alloc (.cells z.cells T)).setRow w.heap.size (a.eval x).cells.toList.toArray) := by
    refine ⟨rfl, rfl, rfl, by simp, fun q hq => ?_, Nat.le_refl _⟩
    rw [setRow_other _ _ _ _ (by omega)]
    exact Go.RowKit.Below.heap_alloc w _ q hq
  refine k _ _ hbw (below_trans' hB hbw) ⟨?_, ?_, fun b hb => Nat.lt_of_lt_of_le (hA.own b hb) hbw.size, ?_⟩
  · simp [Act.put, hA.size]
  · exact hA.defers
  · refine Sat.put (a := a) (d := some d) (hA.sat.mono (v2_below hbw)) (fun q hq => by cases hq; exact hdn) ⟨w.heap.size, 0, rfl, _, Enc.mono (vw_below hbw) hcells, fun j v ev => ?_⟩
    have hFn : F w.heap.size = false := by
      cases hq : F w.heap.size with
      | false => rfl
      | true => have := hA.own _ hq; omega
    show vw F _ _ = _
    unfold vw
    rw [if_neg (by simp [hFn])]
    rw [cell_of_row _ _ _ (a.eval x).cells.toList.toArray T (0, 0) (setRow_heap _ _ _ _ T _ (heap_alloc_new w _))]
    simpa using ev
end
end Go.Proofs.Ytkbilbeaedocjaa.Wh
