/-
  What is proved: elements of arrays of the call's own that are set; own slices cut short; function values that hold the place of their own variable.
-/
import Derived.Test.YtkbilbeaedocjaaBaseH
namespace Go.Proofs.Ytkbilbeaedocjaa.Wh
open Go Go.RowKit

theorem SetF.vec {α : Type} [Enc α] {n : Nat} {x x' : Vector α n} {i : Int} {z : α} (h : setA x i z = some x') : SetF (i.toNat * Enc.size α) x z x' := ⟨fun c l m h1 h2 => by
  unfold setA at h
  split at h
  · rename_i q
    cases h
    have h1 : RepL c l x.toList := h1
    have hl : i.toNat < x.toList.length := by simpa using q.2
    have hlen := RepL.len h1
    have hm := Enc.len h2
    refine ⟨?_, ?_⟩
    · rw [hlen, hm, ← Nat.succ_mul]
      exact Nat.mul_le_mul_right _ hl
    · have := RepL.set i.toNat h1 h2 hl
      show RepL c _ (x.set i.toNat z q.2).toList
      rw [Vector.toList_set]
      exact this
  · cases h⟩
section
variable {P : Program} {Γ : List (Nat × Pr)} {ty : TypeId} {n : Nat} {F0 : Nat → Bool} {js : List Item} {w0 w : World} {a : Act} {ops : Array Oper} {Q : Exit → Act → World → Prop}
theorem sp_indexAddrP {α : Type} [Enc α] {x k : Operand} {T E : TypeId} {m b : Nat} {v v' : Vector α m} {i : Int} {z : α} (hT : ArP P T E m α) (hx : Od Γ x (Pr.ptr b)) (hk : Od Γ k (isV i)) (h : setA v i z = some v') : StepP P (.indexAddr T x k) ty Γ (Pr.is (.pointer (some ⟨b, i.toNat * Enc.size α, none⟩))) :=
  step_pure fun c w a hc hm => by
    have hkv := get_int hk hm (by simp [Op.operands])
    have hv : a.eval x = .pointer (some ⟨b, 0, none⟩) := hx.get hm (by simp [Op.operands])
    unfold setA at h
    split at h
    · rename_i q
      refine ⟨.pointer (some ⟨b, i.toNat * Enc.size α, none⟩), ?_, rfl⟩
      have hi : 0 ≤ i ∧ i < (m : Int) := ⟨q.1, by omega⟩
      simp [execOp, plain, hkv, hv, Instr.indexAt, Instr.sureAddr, asIntOf, run_underlying hT.desc, hi, hT.elem.sizeOf w, Addr.add_lit]
    · cases h
theorem sp_indexAddrPI {α : Type} [Enc α] {x k : Operand} {T E : TypeId} {m b : Nat} {v : Vector α m} {i : Int} {y : α} (hT : ArP P T E m α) (hx : Od Γ x (Pr.ptr b)) (hk : Od Γ k (isV i)) (h : idxA v i = some y) : StepP P (.indexAddr T x k) ty Γ (Pr.is (.pointer (some ⟨b, i.toNat * Enc.size α, none⟩))) :=
  sp_indexAddrP (z := y) (v' := v.set i.toNat y (by obtain ⟨_, hlt, _⟩ := idx_some h; simpa using hlt)) hT hx hk (by
    obtain ⟨h0, hlt, _⟩ := idx_some h
    unfold setA
    rw [dif_pos ⟨h0, by simpa using hlt⟩])
/-! ### a function value that holds the place of its own variable -/
/-- The place of a variable that holds a function value: what it holds, and this place last. -/
def Pr.selfc (g : FuncId) (κs : List Pr) : Pr := ⟨fun c v => ∃ b off cap, v = .pointer (some ⟨b, off, none⟩) ∧ c.c ⟨b, off, none⟩ = some (.func (.func g) #[] (cap ++ [v]).toArray) ∧ Fit ⟨c.c, c.c⟩ κs cap,
  fun {c c' _} hc ⟨b, off, cap, h1, h2, h3⟩ => ⟨b, off, cap, h1, hc.1 _ _ h2, Fit.mono (c := ⟨c.c, c.c⟩) (c' := ⟨c'.c, c'.c⟩) ⟨hc.1, hc.1⟩ h3⟩⟩
theorem sp_loadSelf {x : Operand} {T : TypeId} {g : FuncId} {κs : List Pr} (hT : TyP P T Raw) (hx : Od Γ x (Pr.selfc g κs)) : StepP P (.load T x) ty Γ (Pr.clo g (κs ++ [Pr.selfc g κs])) :=
  step_pure fun c w a hc hm => by
    obtain ⟨b, off, cap, hv, hcell, hfit⟩ := hx.get hm (by simp [Op.operands])
    obtain ⟨u, hrun, hval⟩ := run_load_cells (P := P) hT (c := c.c) (x := Raw.mk (.func (.func g) #[] (cap ++ [a.eval x]).toArray)) (vs := [.func (.func g) #[] (cap ++ [a.eval x]).toArray]) (b := b) (off := off) ⟨rfl, rfl⟩ (w := w) (fun j v e => by
      cases j with
      | zero => simp at e; subst e; exact hc.1 _ _ hcell
      | succ j => simp at e)
    have hu : u = .func (.func g) #[] (cap ++ [a.eval x]).toArray := hval.1
    refine ⟨u, by simp [execOp, plain, hv, Instr.loadAt, Instr.sureAddr, hrun], _, hu, ?_⟩
    rw [List.toList_toArray]
    exact hfit.append ⟨⟨b, off, cap, hv, hcell, hfit⟩, trivial⟩
/-- A function value that is to be held by its own variable. -/
def Pr.cloP (g : FuncId) (κs : List Pr) (b : Nat) : Pr := ⟨fun c v => ∃ cap : List Value, v = .func (.func g) #[] (cap ++ [Value.pointer (some ⟨b, 0, none⟩)]).toArray ∧ Fit ⟨c.c, c.c⟩ κs cap,
  fun {c c' _} hc ⟨cap, h1, h2⟩ => ⟨cap, h1, Fit.mono (c := ⟨c.c, c.c⟩) (c' := ⟨c'.c, c'.c⟩) ⟨hc.1, hc.1⟩ h2⟩⟩
theorem sp_makeSelf {g : FuncId} {xs : List Operand} {p : Operand} {κs : List Pr} {b : Nat} (hC : OnlyC κs) (hx : OdL Γ xs κs) (hp : Od Γ p (Pr.ptr b)) : StepP P (.makeFunc (.func g) #[] (xs ++ [p]).toArray) ty Γ (Pr.cloP g κs b) :=
  step_pure fun c w a hc hm => by
    have hfit := hx.fit hm (fun y hy => by simp [Op.operands]; exact .inl hy)
    have hv : a.eval p = .pointer (some ⟨b, 0, none⟩) := hp.get hm (by simp [Op.operands])
    exact ⟨.func (.func g) #[] ((xs ++ [p]).toArray.map a.eval), by simp [execOp, plain, Instr.makeFunc], xs.map a.eval, by simp [hv], Fit.only hC hfit⟩
variable {t : TypeId} {ps : String} {af : Array Edge} {r : List Oper} {Δ : List (Nat × Pr)}
theorem s_storeSelf {k p b : Nat} {T : TypeId} {y : Operand} {x : Raw} {g : FuncId} {κs : List Pr} (hT : TyP P T Raw) (h : St n F0 js Γ w0 a w) (hk : js[k]? = some (Item.box T b x)) (hl : AllOd Γ Δ) (hC : AllC Δ) (hp : lk Δ p = some (Pr.ptr b)) (hy : Od Γ y (Pr.cloP g κs b))
    (K : ∀ w', St n F0 (js.eraseIdx k) ((p, Pr.selfc g κs) :: Δ) w0 a w' → wpList P ops Q r a w') :
    wpList P ops Q (⟨none, .store T (.tmp p) y, t, ps, af, none⟩ :: r) a w := by
  obtain ⟨cap, hv, hfit⟩ := hy.get (h.at_.met [y]) (by simp)
  have hpv : tmp a p = .pointer (some ⟨b, 0, none⟩) := (h.weak hl).at_.sat p _ hp
  refine s_storeV (off := 0) (z := Raw.mk (a.eval y)) hT h hk hl hC hpv ⟨rfl, by rw [hv]; rfl⟩ SetF.self fun w' hS hM => ?_
  have hk' : (js.set k (Item.box T b (Raw.mk (a.eval y))))[k]? = some (Item.box T b (Raw.mk (a.eval y))) := List.getElem?_set_self (List.getElem?_eq_some_iff.1 hk).1
  have e : (js.set k (Item.box T b (Raw.mk (a.eval y)))).eraseIdx k = js.eraseIdx k := List.eraseIdx_set_eq
  have hd := st_drop k hS
  have hf := st_freezeB k p hS hk' hp
  rw [e] at hd hf
  refine K w' (hd.put_fact ?_)
  have hA : (isA (Raw.mk (a.eval y))).p (v2 (pf F0 (Its (js.eraseIdx k))) w') (tmp a p) := hf.at_.sat p _ (by simp [lk])
  obtain ⟨b', off, h1, vs, h2, h3⟩ := hA
  rw [hpv] at h1
  cases h1
  obtain ⟨u, rfl, h4, _⟩ := rep1_out h2
  have h4 : u = a.eval y := h4
  subst h4
  refine ⟨b, 0, cap, hpv, ?_, Fit.mono (c := ⟨vw (pf F0 (Its js)) w, vw (pf F0 (Its js)) w⟩) ⟨?_, ?_⟩ hfit⟩
  · have := h3 0 (a.eval y) rfl
    rw [hpv, ← hv]
    exact this
  · refine Mem.le_trans hM ?_
    rw [← e, its_erase]
    exact vw_less fun _ hb => pf_erase hb
  · refine Mem.le_trans hM ?_
    rw [← e, its_erase]
    exact vw_less fun _ hb => pf_erase hb
theorem repL_take {α : Type} [Enc α] {c : Mem} : ∀ {cells : List Value} {xs : List α}, RepL c cells xs → ∀ k, RepL c (cells.take (k * Enc.size α)) (xs.take k)
  | _, [], h, k => by cases h; simp [RepL]
  | _, x :: r, _, 0 => by simp [RepL]
  | _, x :: r, ⟨v1, v2, he, h1, h2⟩, k + 1 => by
    have e := Enc.len h1
    refine ⟨v1, v2.take (k * Enc.size α), ?_, h1, repL_take h2 k⟩
    rw [he, Nat.succ_mul, Nat.add_comm, ← e, List.take_length_add_append]
/-! ### own slices cut short -/
def cutV (v : Value) (m : Int) : Value := match v with | .slice a _ cap => .slice a m.toNat cap | u => u
def CutOK (v : Value) (m : Int) : Prop := 0 ≤ m ∧ ((v = .slice none 0 0 ∧ m = 0) ∨ ∃ g len cap, v = .slice (some ⟨g, 0, none⟩) len cap ∧ m.toNat ≤ cap)
theorem sp_cut {x hi : Operand} {T E : TypeId} {v : Value} {m : Int} {α : Type} [Enc α] (hT : SlP P T E α) (hx : Od Γ x (Pr.is v)) (hh : Od Γ hi (isV m)) (hc : CutOK v m) : StepP P (.slice T x none (some hi) none) ty Γ (Pr.is (cutV v m)) :=
  step_pure fun c w a hc' hm => by
    have hv : a.eval x = v := hx.get hm (by simp [Op.operands])
    have hk := get_int hh hm (by simp [Op.operands])
    obtain ⟨h0, ⟨rfl, rfl⟩ | ⟨g, len, cap, rfl, hle⟩⟩ := hc
    · refine ⟨.slice none 0 0, ?_, rfl⟩
      simp [execOp, plain, hv, hk, Instr.sliceAt, Instr.slice, Instr.sliceBounds, Instr.sliceBound, asIntOf, run_underlying hT.desc, hT.elem.sizeOf w]
    · refine ⟨.slice (some ⟨g, 0, none⟩) m.toNat cap, ?_, rfl⟩
      have hi : 0 ≤ m ∧ m ≤ (cap : Int) := ⟨h0, by omega⟩
      simp [execOp, plain, hv, hk, Instr.sliceAt, Instr.slice, Instr.sliceBounds, Instr.sliceBound, asIntOf, run_underlying hT.desc, hT.elem.sizeOf w, hi, Addr.add_lit]
theorem St.cutOK {α : Type} [Enc α] {E : TypeId} {k : Nat} {v : Value} {xs ys : List α} {m : Int} (h : St n F0 js Γ w0 a w) (hk : js[k]? = some (Item.sl E v xs)) (hc : cut xs m = some ys) : CutOK v m := by
  unfold cut at hc
  split at hc
  · rename_i q
    have hO : Own E 0 (vw (pf F0 (Its js)) w) w v xs := h.it hk
    obtain ⟨cells, hr, _⟩ := hO.row
    rcases hr.2 with ⟨h1, h2⟩ | ⟨g, cap, cur, h1, h2, h3, h4, h5⟩
    · exact ⟨q.1, .inl ⟨h1, by omega⟩⟩
    · exact ⟨q.1, .inr ⟨g, _, cap, h1, by omega⟩⟩
  · cases hc
theorem st_cut {α : Type} [Enc α] {E : TypeId} {v : Value} {xs ys : List α} {m : Int} (k : Nat) (h : St n F0 js Γ w0 a w) (hk : js[k]? = some (Item.sl E v xs)) (hc : cut xs m = some ys) : St n F0 (js.set k (Item.sl E (cutV v m) ys)) Γ w0 a w := by
  have hok := h.cutOK hk hc
  unfold cut at hc
  split at hc
  · rename_i q
    cases hc
    have ho : ob (cutV v m) = ob v := by
      obtain ⟨_, ⟨rfl, rfl⟩ | ⟨g, len, cap, rfl, _⟩⟩ := hok <;> rfl
    refine h.swap hk ho fun hO => ?_
    have hO : Own E 0 (vw (pf F0 (Its js)) w) w v xs := hO
    obtain ⟨cells, hr, hl⟩ := hO.row
    have hlen := RepL.len hl
    have hsplit : RepL (vw (pf F0 (Its js)) w) (cells.take (m.toNat * Enc.size α)) (xs.take m.toNat) := repL_take hl _
    refine ⟨cells.take (m.toNat * Enc.size α), ⟨?_, ?_⟩, hsplit⟩
    · rw [RepL.len hsplit]
    · rcases hr.2 with ⟨h1, h2⟩ | ⟨g, cap, cur, h1, h2, h3, h4, h5, h6, h7⟩
      · left
        subst h1
        have : m = 0 := by omega
        subst this
        exact ⟨rfl, by simp⟩
      · right
        subst h1
        refine ⟨g, cap, cur, ?_, h2, h3, ?_, h5, h6, ?_⟩
        · show Value.slice (some ⟨g, 0, none⟩) m.toNat cap = _
          rw [List.length_take, Nat.min_eq_left q.2]
        · rw [List.length_take]; omega
        · rw [← h7, List.length_take, Nat.min_eq_left q.2, List.take_take, Nat.min_eq_left (Nat.mul_le_mul_right _ q.2)]
  · cases hc
/-! ### own slices that are laid with what they hold -/
theorem s_build {d n' : Nat} {T E : TypeId} {α : Type} [Enc α] {parts : Array (Nat × Operand)} (os : List Operand) (ds : List α) (hT : SlP P T E α) (hz : ZeroP P E α)
    (hp : parts.toList = (os.zipIdx 0).map fun x => (x.2, x.1)) (hn : n' = os.length) (hpos : Nat.blt 0 n' = true) (hsm : Nat.ble (n' * Enc.size α) 16777216 = true) (h : St n F0 js Γ w0 a w) (hx : OdL Γ os (ds.map isV)) (hd : Nat.blt d n = true)
    (K : ∀ a' w' v, St n F0 (js ++ [Item.sl E v ds]) ((d, Pr.is v) :: Γ) w0 a' w' → Mem.le (vw (pf F0 (Its js)) w) (vw (pf F0 (Its (js ++ [Item.sl E v ds]))) w') → wpList P ops Q r a' w') :
    wpList P ops Q (⟨some d, .buildSlice T n' parts, t, ps, af, none⟩ :: r) a w := by
  obtain ⟨i, z, hi, hzz, hsz, hzs, hps, _⟩ := hz.out
  have hfit := OdL.fit (h.at_.met os) hx (fun y hy => hy)
  obtain ⟨hrl, hcs⟩ := fit_repL hfit
  have hlen : ds.length = n' := by have := hfit.len; simp at this; omega
  have hpos' : 0 < n' := by simpa [Nat.blt_eq] using hpos
  have hsm' := Nat.le_of_ble_eq_true hsm
  have hprt : (parts.map fun (i, x) => (i, a.eval x)).toList = ((os.map a.eval).zipIdx 0).map fun x => (x.2, x.1) := by
    rw [Array.toList_map, hp]
    apply List.ext_getElem?
    intro k
    simp [List.getElem?_zipIdx]
    cases os[k]? <;> simp
  have hfill := Go.Great.fill_whole (s := i.size) (by rw [hsz]; exact hps) (os.map a.eval) ((Array.range (n' * i.size)).map (z.cells[· % z.cells.size]!)) (fun v hv => by rw [hsz]; exact hcs v hv) (by simp [hn])
  have hr := run_buildSlice (P := P) w T E n' (parts.map fun (i, x) => (i, a.eval x)) _ i z hT.desc hi hzz (by rw [hsz]; omega) (by rw [hsz]; exact Nat.ne_of_gt (Nat.mul_pos hpos' hps)) (by rw [hprt]; exact hfill)
  have hrun : (execOp a.eval ⟨some d, .buildSlice T n' parts, t, ps, af, none⟩).run P w = .ok (.value (.slice (some ⟨w.heap.size, 0, none⟩) n' n')) (w.alloc (.cells ((os.map a.eval).flatMap fun v => v.cells.toList).toArray E)) := by
    simp only [execOp, Sem.run_bind, hr, Result.andThen_ok, Sem.run_pure]
  unfold wpList
  simp only [Region.wanted, if_true]
  refine .inl (wp_of_ex ?_)
  unfold Ex
  rw [hrun]
  generalize hcells : ((os.map a.eval).flatMap fun v => v.cells.toList) = cells at *
  have hb : Below w.heap.size w (w.alloc (.cells cells.toArray E)) := below_alloc _ _
  have hsize : (w.alloc (.cells cells.toArray E)).heap.size = w.heap.size + 1 := Array.size_push _
  have ho : ∀ b, ob (.slice (some ⟨w.heap.size, 0, none⟩) n' n') b = true → w.heap.size ≤ b ∧ b < (w.alloc (.cells cells.toArray E)).heap.size := fun b hb => by
    have := ob_iff.1 hb; cases this; rw [hsize]; exact ⟨Nat.le_refl _, Nat.lt_succ_self _⟩
  have hle := vw_push (F0 := F0) (os := Its js) hb fun b hb => (ho b hb).1
  have hcl := RepL.len hrl
  refine K _ _ _ (h.push (it := Item.sl E (.slice (some ⟨w.heap.size, 0, none⟩) n' n') ds) hb ((at_push h.at_ hb ho).put (by simpa [Nat.blt_eq] using hd) rfl) (fun b hb => (ho b hb).1) ?_ hle) (by rw [its_push]; exact hle)
  refine ⟨cells, ⟨by rw [hcl], .inr ⟨w.heap.size, n', cells.toArray, by rw [hlen], Nat.zero_le _, ?_, by rw [hlen]; exact Nat.le_refl _, ?_, ?_, ?_⟩⟩, hrl.mono hle⟩
  · exact Array.getElem?_push_size
  · unfold maxLen; have : n' ≤ n' * Enc.size α := Nat.le_mul_of_pos_right _ hps; omega
  · simp [hcl, hlen]
  · rw [List.take_of_length_le (by rw [hcl]; exact Nat.le_refl _)]
end
/-! ### short words for what walks say often -/
section
variable {P : Program} {Γ : List (Nat × Pr)} {ops : Array Oper} {d : Nat} {t : TypeId} {ps : String} {af : Array Edge} {r : List Oper} {K : List (Nat × Pr) → Prop} {φ : Pr}
theorem cg {op : Op} (h : StepP P op t Γ φ) (k : SeqK P ops r ((d, φ) :: Γ) K) (hs : ∀ cs b, op ≠ .select cs b := by intros; nofun) : SeqK P ops (⟨some d, op, t, ps, af, none⟩ :: r) Γ K := sc (sg h hs) k
theorem mv {x : Nat} (h : lk Γ x = some φ) (k : SeqK P ops r ((d, φ) :: Γ) K) : SeqK P ops (⟨some d, .move (.tmp x), t, ps, af, none⟩ :: r) Γ K := cg (sp_move (od h)) k
theorem et {K : Act → World → Prop} {Q : Exit → Act → World → Prop} {a : Act} {w : World} (h : K a w) : Exit.then K Q .normal a w := h
theorem ws {Q : Exit → Act → World → Prop} {a : Act} {w : World} {x y : Code} (h : x.wp P (Exit.then (y.wp P Q) Q) a w) : (Code.seq x y).wp P Q a w := wp_seq h
end
end Go.Proofs.Ytkbilbeaedocjaa.Wh
