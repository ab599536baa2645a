/-
  What is proved: calls behind a test of function values that change things; operations on places in boxes that may come at any time.
-/
import Derived.Test.YtnnhmgcigoiceaaGreatDoorBaseM
namespace Go.Proofs.YtnnhmgcigoiceaaGreatDoor.Wh
open Go Go.RowKit

section
variable {P : Program} {Γ : List (Nat × Pr)} {n : Nat} {F0 : Nat → Bool} {js : List Item} {w0 w : World} {a : Act} {ops : Array Oper} {Q : Exit → Act → World → Prop}
variable {t : TypeId} {ps : String} {af : Array Edge} {r : List Oper} {Δ : List (Nat × Pr)}
/-- A function value that changes what it knows, called behind a test. -/
theorem s_callFG {d gi e : Nat} {gb g : Bool} {f : Nat} {gg : Operand} {xs : List Operand} {ts : Array TypeId} {φs κs : List Pr} {js1 fr : List Item} {ρ : ResF} (hg : lk Γ e = some (isV g)) (hd : Nat.blt d n = true) (he : Enters P f) (hc : (g == gb) = true → CallF P f js1 (φs ++ κs) ρ) (hn : (g == gb) = false → ∃ x, ρ.js x = js1)
    (h : St n F0 (js1 ++ fr) Γ w0 a w) (hl : AllOd Γ Δ) (hC : AllC Δ) (hgv : (g == gb) = true → Od Γ gg (Pr.clo f κs)) (hx : (g == gb) = true → OdL Γ xs φs)
    (K : ∀ a' w' x, St n F0 (ρ.js x ++ fr) ((d, (ρ.φ x).when (g == gb)) :: Δ) w0 a' w' → Mem.le (vw (pf F0 (Its (js1 ++ fr))) w) (vw (pf F0 (Its (ρ.js x ++ fr))) w') → wpList P ops Q r a' w')
    (hd0 : (ops[gi]?).bind (·.dst) = some e := by rfl) :
    wpList P ops Q (⟨some d, .call { callee := .value gg, args := xs.toArray, argTypes := ts }, t, ps, af, some (gi, gb)⟩ :: r) a w := by
  have h' := h.weak hl
  have hdn : d < n := by simpa [Nat.blt_eq] using hd
  have hv : tmp a e = .bool g := h.at_.sat e _ hg
  have hy := yielded_of hd0 hv
  unfold wpList
  simp only [Region.wanted, hy]
  cases hG : (g == gb) with
  | true =>
    have hw : (some g == some gb) = true := by simpa using hG
    rw [if_pos hw]
    have hm : ∀ xs, Met Γ xs (v2 (pf F0 (Its (js1 ++ fr))) w) a := h.at_.met
    have hfit := OdL.fit (hm xs) (hx hG) (fun y hy => hy)
    obtain ⟨cap, hv, hk⟩ := (hgv hG).get (hm [gg]) (by simp)
    have hrun : (execOp a.eval ⟨some d, .call { callee := .value gg, args := xs.toArray, argTypes := ts }, t, ps, af, some (gi, gb)⟩).run P w = .ok (.enter f (xs.map a.eval ++ cap.toList).toArray) w := by
      have h1 : xs.toArray.map a.eval ++ cap = (xs.map a.eval ++ cap.toList).toArray := by
        apply Array.ext'; simp
      simp only [execOp, resolve, hv, Deferred.ofValue, invoke]
      simp [he _ w]
    refine .inl (wp_of_ex ?_)
    unfold Ex
    rw [hrun]
    refine (hc hG F0 fr w0 w _ h'.wst (hfit.append (Fit.mono (c := ⟨vw (pf F0 (Its (js1 ++ fr))) w, vw (pf F0 (Its (js1 ++ fr))) w⟩) (c' := v2 (pf F0 (Its (js1 ++ fr))) w) ⟨Mem.le_refl _, fun _ _ h => vw_cell h⟩ hk))).mono fun e w' ⟨v, x, hev, hW, hM, hp⟩ => ⟨v, hev, ?_⟩
    have hA : At n (pf F0 (Its (ρ.js x ++ fr))) Δ a w' := h'.at_.turn hC hM hW.lt
    refine K _ w' x ⟨hA.put hdn ?_, hW.apart, hW.own, hW.low, hW.below, hW.base⟩ hM
    rw [hG]
    exact ⟨fun _ => hp, fun q => (by cases q)⟩
  | false =>
    have hw : ¬ (some g == some gb) = true := by
      intro q
      have : (g == gb) = true := by simpa using q
      rw [hG] at this; cases this
    rw [if_neg hw]
    obtain ⟨x, hx⟩ := hn hG
    refine K _ w x ?_ (by rw [hx]; exact Mem.le_refl _)
    rw [hx]
    refine ⟨h'.at_.put hdn ?_, h'.apart, h'.own, h'.low, h'.below, h'.base⟩
    rw [hG]
    exact ⟨fun q => (by cases q), fun _ => rfl⟩
end
section
variable {P : Program} {Γ : List (Nat × Pr)} {ty : TypeId}
theorem sy_sub {x y : Operand} {T T' : TypeId} {m n : Int} (hx : Od Γ x (isV m)) (hy : Od Γ y (isV n)) : StepY P (.binOp .sub T x y T') ty Γ (isV (wr (m - n))) :=
  fun c a hm => by
    have h1 := get_int hx hm (by simp [Op.operands])
    have h2 := get_int hy hm (by simp [Op.operands])
    refine ⟨.int .i64 (wr (m - n)), rfl, fun w _ => ?_⟩
    simp [execOp, plain, h1, h2, eqGuard, binOp, Op.intArith, wr]
end
section
variable {P : Program} {Γ : List (Nat × Pr)} {ty : TypeId}
/-- A variable that holds a header and is written no more. -/
theorem sp_loadRawA {x : Operand} {T : TypeId} {v : Value} (hT : TyP P T Raw) (hx : Od Γ x (isA (Raw.mk v))) : StepP P (.load T x) ty Γ (Pr.is v) :=
  step_pure fun c w a hc hm => by
    obtain ⟨b, off, hv, vs, hr, hh⟩ := hx.get hm (by simp [Op.operands])
    obtain ⟨u, hrun, hval⟩ := run_load_cells (P := P) hT hr (fun j u e => hc.1 _ _ (hh j u e))
    have : u = v := hval.1
    exact ⟨u, by simp [execOp, plain, hv, Instr.loadAt, Instr.sureAddr, hrun], this⟩
end
section
variable {P : Program} {Γ : List (Nat × Pr)} {n : Nat} {F0 : Nat → Bool} {w0 w : World} {a : Act}
/-- Things to the front, and back. -/
theorem st_swapF {xs ys fr : List Item} (h : St n F0 (xs ++ (ys ++ fr)) Γ w0 a w) : St n F0 (ys ++ (xs ++ fr)) Γ w0 a w := by
  refine h.reindex (fun i => if i < ys.length then xs.length + i else if i < ys.length + xs.length then i - ys.length else i) (fun i it hi => ?_) (fun i j hi hj e => ?_) fun it hm => ?_
  · show (xs ++ (ys ++ fr))[if i < ys.length then xs.length + i else if i < ys.length + xs.length then i - ys.length else i]? = some it
    by_cases q : i < ys.length
    · rw [if_pos q, List.getElem?_append_right (by omega), Nat.add_sub_cancel_left, List.getElem?_append_left q]
      rw [List.getElem?_append_left q] at hi
      exact hi
    · rw [if_neg q]
      rw [List.getElem?_append_right (by omega)] at hi
      by_cases q2 : i < ys.length + xs.length
      · rw [if_pos q2, List.getElem?_append_left (by omega)]
        rw [List.getElem?_append_left (by omega)] at hi
        exact hi
      · rw [if_neg q2, List.getElem?_append_right (by omega), List.getElem?_append_right (by omega)]
        rw [List.getElem?_append_right (by omega)] at hi
        rw [show i - xs.length - ys.length = i - ys.length - xs.length by omega]
        exact hi
  · simp only [List.length_append] at hi hj
    split at e
    · split at e
      · omega
      · split at e <;> omega
    · split at e
      · split at e
        · omega
        · split at e <;> omega
      · split at e
        · omega
        · split at e <;> omega
  · simp only [List.mem_append] at hm ⊢
    rcases hm with h | h | h
    · exact .inr (.inl h)
    · exact .inl h
    · exact .inr (.inr h)
end
/-- A function value that looks at things and changes none. -/
structure RdP (P : Program) (g : FuncId) (κs : List Pr) {α β : Type} [Enc α] [Enc β] (J : List Item) (F : α → Option β) : Prop where
  en : Enters P g
  ok : ∀ {a : α} {r : β}, F a = some r → CallF P g J ([isV a] ++ κs) ⟨Unit, fun _ => J, fun _ => isV r⟩
/-! ### a variable that holds the header of an own slice, both looked at -/
def Pr.boxR {α : Type} [Enc α] (b : Nat) (v : Value) (xs : List α) : Pr := ⟨fun c u => (Pr.boxed b (Raw.mk v)).p c u ∧ RowM c v xs, fun hc h => ⟨(Pr.boxed b (Raw.mk v)).mono hc h.1, h.2.mono hc⟩⟩
theorem odBxR {α : Type} [Enc α] {Γ : List (Nat × Pr)} {t b : Nat} {v : Value} {xs : List α} (h : lk Γ t = some (Pr.boxR b v xs)) : Od Γ (.tmp t) (Pr.ptr b) := od_mono (od h) fun _ _ k => k.1.1
section
variable {P : Program} {Γ : List (Nat × Pr)} {n : Nat} {F0 : Nat → Bool} {js : List Item} {w0 w : World} {a : Act} {ty : TypeId}
theorem st_boxR {α : Type} [Enc α] {T E : TypeId} {b : Nat} {v : Value} {xs : List α} (kb ks t : Nat) (h : St n F0 js Γ w0 a w) (hb : js[kb]? = some (Item.box T b (Raw.mk v))) (hs : js[ks]? = some (Item.sl E v xs)) (e : lk Γ t = some (Pr.ptr b)) : St n F0 js ((t, Pr.boxR b v xs) :: Γ) w0 a w := by
  have h1 := st_box kb t h hb e
  have hO : Own E 0 (vw (pf F0 (Its js)) w) w v xs := h.it hs
  obtain ⟨cells, h2, h3⟩ := hO.row
  have hA := h1.at_
  refine ⟨⟨hA.size, hA.defers, hA.own, fun s φ hq => ?_⟩, h.apart, h.own, h.low, h.below, h.base⟩
  unfold lk at hq
  cases hbq : Nat.beq t s with
  | true =>
    rw [hbq] at hq
    simp only [cond_true, Option.some.injEq] at hq
    have := Nat.eq_of_beq_eq_true hbq
    subst this; subst hq
    exact ⟨hA.sat t _ (by simp [lk]), own_rowM h2 h3⟩
  | false => rw [hbq] at hq; exact h.at_.sat s φ hq
theorem sp_loadBoxR {α : Type} [Enc α] {x : Operand} {T : TypeId} {b : Nat} {v : Value} {xs : List α} (hT : TyP P T Raw) (hx : Od Γ x (Pr.boxR b v xs)) : StepP P (.load T x) ty Γ (isOS v xs) :=
  step_pure fun c w a hc hm => by
    obtain ⟨⟨_, b, off, vs, hv, hr, hh⟩, hrow⟩ := hx.get hm (by simp [Op.operands])
    obtain ⟨u, hrun, hval⟩ := run_load_cells (P := P) hT hr (fun j u e => hc.2 _ _ (hh j u e))
    have : u = v := hval.1
    exact ⟨u, by simp [execOp, plain, hv, Instr.loadAt, Instr.sureAddr, hrun], this, hrow⟩
end
section
variable {P : Program} {Γ : List (Nat × Pr)} {n : Nat} {F0 : Nat → Bool} {js : List Item} {w0 w : World} {a : Act} {ops : Array Oper} {Q : Exit → Act → World → Prop}
variable {d : Nat} {t : TypeId} {ps : String} {af : Array Edge} {r : List Oper}
/-- A variable of the call's own that is laid with a value. -/
theorem s_box {T : TypeId} {α : Type} [Enc α] {x : Operand} {e : α} (h : St n F0 js Γ w0 a w) (hx : Od Γ x (isV e)) (hd : Nat.blt d n = true)
    (K : ∀ a' w' b, St n F0 (js ++ [Item.box T b e]) ((d, Pr.ptr b) :: Γ) w0 a' w' → Mem.le (vw (pf F0 (Its js)) w) (vw (pf F0 (Its (js ++ [Item.box T b e]))) w') → wpList P ops Q r a' w') :
    wpList P ops Q (⟨some d, .box T x, t, ps, af, none⟩ :: r) a w := by
  have h1 := val_cells (hx.get (h.at_.met [x]) (by simp))
  have hr : (execOp a.eval ⟨some d, .box T x, t, ps, af, none⟩).run P w = .ok (.value (.pointer (some ⟨w.heap.size, 0, none⟩))) (w.alloc (.cells (a.eval x).cells T)) := by
    simp [execOp, Instr.box, newVar, newRow]
  unfold wpList
  simp only [Region.wanted, if_true]
  refine .inl (wp_of_ex ?_)
  unfold Ex
  rw [hr]
  have hbw := below_alloc w (.cells (a.eval x).cells T)
  have ho : ∀ b, bx w.heap.size b = true → w.heap.size ≤ b ∧ b < (w.alloc (.cells (a.eval x).cells T)).heap.size := fun b hb => by rw [bx_iff] at hb; subst hb; simp
  have hle := vw_push (F0 := F0) (os := Its js) hbw fun b hb => (ho b hb).1
  exact K _ _ w.heap.size (h.push (it := Item.box T w.heap.size e) hbw ((at_push h.at_ hbw ho).put (by simpa [Nat.blt_eq] using hd) rfl) (fun b hb => (ho b hb).1) ⟨⟨_, heap_alloc_new w _, Enc.mono hle h1⟩, Nat.zero_le _⟩ hle) (by rw [its_push]; exact hle)
end
theorem gd_true {g : Bool} (h : (g == true) = true) : g = true := by cases g <;> simp_all
theorem gd_trueN {g : Bool} (h : (g == true) = false) : ¬ g = true := by cases g <;> simp_all
theorem ite_t_ {α : Type} {G : Bool} {x y : α} {z : α} (h : (if G = true then x else y) = z) (hG : G = true) : x = z := by rw [if_pos hG] at h; exact h
theorem ite_f_ {α : Type} {G : Bool} {x y : α} {z : α} (h : (if G = true then x else y) = z) (hG : ¬ G = true) : y = z := by rw [if_neg hG] at h; exact h
section
variable {n : Nat} {F0 : Nat → Bool} {js : List Item} {w0 w : World} {a : Act} {Γ : List (Nat × Pr)} {d : Nat} {φ : Pr} {g : Bool}
theorem st_gd_true (h : St n F0 js ((d, φ.when (g == true)) :: Γ) w0 a w) : St n F0 js ((d, φ.when g) :: Γ) w0 a w := by
  have e : (g == true) = g := by cases g <;> rfl
  rw [e] at h; exact h
end
theorem repL_replicate {α : Type} [Enc α] {c : Mem} {cs : List Value} {x : α} (h : Enc.rep c cs x) : ∀ n, RepL c (List.replicate n cs).flatten (List.replicate n x)
  | 0 => rfl
  | n + 1 => ⟨cs, (List.replicate n cs).flatten, by rw [List.replicate_succ, List.flatten_cons], h, repL_replicate h n⟩
theorem repV_replicate {α : Type} [Enc α] {c : Mem} {cs : List Value} {x : α} {n : Nat} (h : Enc.rep c cs x) : Enc.rep c (List.replicate n cs).flatten (Vector.replicate n x) := by
  show RepL c _ (Vector.replicate n x).toList
  rw [Vector.toList_replicate]
  exact repL_replicate h n
/-- What a variable holds when a part of it is set, and it is read otherwise. -/
structure SetG {α β γ : Type} [Enc α] [Enc β] [Enc γ] (off : Nat) (x : α) (z : β) (x' : γ) : Prop where
  out : ∀ (c : Mem) (l m : List Value), Enc.rep c l x → Enc.rep c m z → off + m.length ≤ l.length ∧ Enc.rep c (l.take off ++ m ++ l.drop (off + m.length)) x'
theorem SetG.swap {α β : Type} [Enc α] [Enc β] {x : α} {z : β} (hsz : Enc.size α = Enc.size β) : SetG 0 x z z := ⟨fun c l m h1 h2 => by
  have e : m.length = l.length := by rw [Enc.len h1, Enc.len h2, hsz]
  rw [Nat.zero_add, e, List.take_zero, List.nil_append, List.drop_length, List.append_nil]
  exact ⟨Nat.le_refl _, h2⟩⟩
/-! ### variables that hold headers of own slices, all looked at -/
def Pr.row {α : Type} [Enc α] (φ : Pr) (v : Value) (xs : List α) : Pr := ⟨fun c u => φ.p c u ∧ RowM c v xs, fun hc h => ⟨φ.mono hc h.1, h.2.mono hc⟩⟩
theorem odBxS1 {α β : Type} [Enc α] [Enc β] {Γ : List (Nat × Pr)} {t b : Nat} {x : β} {v : Value} {xs : List α} (h : lk Γ t = some (Pr.row (Pr.boxed b x) v xs)) : Od Γ (.tmp t) (Pr.ptr b) := od_mono (od h) fun _ _ k => k.1.1
section
variable {P : Program} {Γ : List (Nat × Pr)} {n : Nat} {F0 : Nat → Bool} {js : List Item} {w0 w : World} {a : Act} {ty : TypeId}
theorem st_row {α : Type} [Enc α] {E : TypeId} {v : Value} {xs : List α} {φ : Pr} (ks t : Nat) (h : St n F0 js Γ w0 a w) (hs : js[ks]? = some (Item.sl E v xs)) (e : lk Γ t = some φ) : St n F0 js ((t, Pr.row φ v xs) :: Γ) w0 a w := by
  have hO : Own E 0 (vw (pf F0 (Its js)) w) w v xs := h.it hs
  obtain ⟨cells, h2, h3⟩ := hO.row
  have hA := h.at_
  refine ⟨⟨hA.size, hA.defers, hA.own, fun s χ hq => ?_⟩, h.apart, h.own, h.low, h.below, h.base⟩
  unfold lk at hq
  cases hbq : Nat.beq t s with
  | true =>
    rw [hbq] at hq
    simp only [cond_true, Option.some.injEq] at hq
    have := Nat.eq_of_beq_eq_true hbq
    subst this; subst hq
    exact ⟨hA.sat t _ e, own_rowM h2 h3⟩
  | false => rw [hbq] at hq; exact hA.sat s χ hq
theorem sp_fieldAddrRow {S α β : Type} [Enc S] [Enc α] [Enc β] {x : Operand} {T : TypeId} {k : Nat} {f : S → α} {d : S} {v : Value} {xs : List β} (hf : FieldP P T k f) (hx : Od Γ x (Pr.row (isB d) v xs)) : StepP P (.fieldAddr T x k) ty Γ (Pr.row (isB (f d)) v xs) := by
  intro F w a hF hm
  have h1 := sp_fieldAddrB (ty := ty) hf (od_mono hx fun _ _ k => k.1) F w a hF hm
  have hr : RowM (v2 F w) v xs := (hx.get hm (by simp [Op.operands])).2
  exact h1.mono fun u w' hk => ⟨hk.1, hk.2, hr.mono (v2_below hk.1)⟩
theorem sp_loadRow {β : Type} [Enc β] {x : Operand} {T : TypeId} {v : Value} {xs : List β} (hT : TyP P T Raw) (hx : Od Γ x (Pr.row (isB (Raw.mk v)) v xs)) : StepP P (.load T x) ty Γ (isOS v xs) :=
  step_pure fun c w a hc hm => by
    obtain ⟨⟨b, off, vs, hv, hr, hh⟩, hrow⟩ := hx.get hm (by simp [Op.operands])
    obtain ⟨u, hrun, hval⟩ := run_load_cells (P := P) hT hr (fun j u e => hc.2 _ _ (hh j u e))
    have : u = v := hval.1
    exact ⟨u, by simp [execOp, plain, hv, Instr.loadAt, Instr.sureAddr, hrun], this, hrow⟩
end
section
variable {P : Program} {Γ : List (Nat × Pr)} {n : Nat} {F0 : Nat → Bool} {js : List Item} {w0 w : World} {a : Act} {ops : Array Oper} {Q : Exit → Act → World → Prop}
variable {t : TypeId} {ps : String} {af : Array Edge} {r : List Oper} {Δ : List (Nat × Pr)}
theorem s_storeW {k p b off : Nat} {T FT : TypeId} {y : Operand} {α β γ : Type} [Enc α] [Enc β] [Enc γ] {x : α} {x' : γ} {z : β} (hT : TyP P FT β) (h : St n F0 js Γ w0 a w) (hk : js[k]? = some (Item.box T b x)) (hl : AllOd Γ Δ) (hC : AllC Δ)
    (hpv : a.eval (.tmp p) = .pointer (some ⟨b, off, none⟩)) (hyv : val (vw (pf F0 (Its js)) w) (a.eval y) z) (hs : SetG off x z x')
    (K : ∀ w', St n F0 (js.set k (Item.box T b x')) Δ w0 a w' → Mem.le (vw (pf F0 (Its js)) w) (vw (pf F0 (Its (js.set k (Item.box T b x')))) w') → wpList P ops Q r a w') :
    wpList P ops Q (⟨none, .store FT (.tmp p) y, t, ps, af, none⟩ :: r) a w := by
  have h' := h.weak hl
  have hO : OwnB T 0 (vw (pf F0 (Its js)) w) w b x := h.it hk
  obtain ⟨cur, h1, h2⟩ := hO.out
  obtain ⟨i, hi, hsz⟩ := hT.info
  have hcells := val_cells hyv
  have hlen := Enc.len hcells
  have hone := Enc.cell hcells
  obtain ⟨hfit, hrep⟩ := hs.out _ _ _ h2 hcells
  have hst := run_storeCells_at P b off T (a.eval y).cells.toList 0 cur w h1 (by simp at hfit; omega) hone
  have hcs : (a.eval y).cells.size = i.size := by rw [hsz, ← hlen]; simp
  have hr : (execOp a.eval ⟨none, .store FT (.tmp p) y, t, ps, af, none⟩).run P w = .ok .skip (w.setRow b (cur.toList.take off ++ (a.eval y).cells.toList ++ cur.toList.drop (off + (a.eval y).cells.toList.length)).toArray) := by
    simp only [Nat.add_zero] at hst
    simp only [execOp, hpv, Instr.storeAt, Instr.sureAddr, storeVar, Go.sizeOf, typeInfo, Sem.run_bind, run_program, Result.andThen_ok, hi, Sem.run_pure]
    simp [hcs, hst]
  unfold wpList
  simp only [Region.wanted, if_true]
  refine .inl (wp_of_ex ?_)
  unfold Ex
  rw [hr]
  generalize hcat : (cur.toList.take off ++ (a.eval y).cells.toList ++ cur.toList.drop (off + (a.eval y).cells.toList.length)).toArray = cat
  have hblk : ∀ q, q < w.heap.size → bx b q = false → (w.setRow b cat).heap[q]? = w.heap[q]? := fun q hq hb => setRow_other _ _ _ _ (fun e => by rw [bx_iff.2 e] at hb; cases hb)
  have hset := set_self (its_at hk)
  have hle := vw_turn (F0 := F0) (its_at hk) hblk (o' := bx b) (fun q hq => .inl hq)
  have hsize : (w.setRow b cat).heap.size = w.heap.size := by simp
  have hlow := h.low k _ b hk (bx_iff.2 rfl)
  have hB : Below w0.heap.size w0 (w.setRow b cat) := h.below.trans ⟨rfl, rfl, rfl, by rw [hsize]; exact Nat.le_refl _, fun q hq => setRow_other _ _ _ _ (fun e => by omega), Nat.le_refl _⟩
  refine K _ (h'.change hk (it' := Item.box T b x') (h'.at_.turn hC hle fun q hq => ?_) hB (by rw [hsize]; exact Nat.le_refl _) (fun q hq => .inl hq) ⟨⟨_, setRow_heap w b cur _ T _ h1, Enc.mono hle (by rw [← hcat]; simpa using hrep)⟩, Nat.zero_le _⟩ hblk hle) ?_
  · rw [hsize]
    have hq' : pf F0 ((Its js).set k (bx b)) q = true := hq
    have e : (Its js).set k (bx b) = Its js := hset
    rw [e] at hq'
    exact h.at_.own q hq'
  · rw [its_set]; exact hle
/-- 'x = y' of a whole variable, which is read otherwise from here on. -/
theorem s_storeB2 {k p b : Nat} {T : TypeId} {y : Operand} {α β : Type} [Enc α] [Enc β] {x : α} {z : β} (hT : TyP P T β) (hsz : Enc.size α = Enc.size β) (h : St n F0 js Γ w0 a w) (hk : js[k]? = some (Item.box T b x)) (hl : AllOd Γ Δ) (hC : AllC Δ) (hp : lk Δ p = some (Pr.ptr b)) (hy : Od Γ y (isV z))
    (K : ∀ w', St n F0 (js.set k (Item.box T b z)) Δ w0 a w' → Mem.le (vw (pf F0 (Its js)) w) (vw (pf F0 (Its (js.set k (Item.box T b z)))) w') → wpList P ops Q r a w') :
    wpList P ops Q (⟨none, .store T (.tmp p) y, t, ps, af, none⟩ :: r) a w :=
  s_storeW (off := 0) hT h hk hl hC ((h.weak hl).at_.sat p _ hp) (hy.get (h.at_.met [y]) (by simp)) (SetG.swap hsz) K
end
end Go.Proofs.YtnnhmgcigoiceaaGreatDoor.Wh

namespace Go.Proofs.YtnnhmgcigoiceaaGreatDoor.Wh
open Go Go.RowKit

/-! ### a variable that is let go while what its headers name is still the call's own -/
section
variable {P : Program} {Γ : List (Nat × Pr)} {n : Nat} {F0 : Nat → Bool} {js : List Item} {w0 w : World} {a : Act} {ty : TypeId}
theorem odRA2 {α α' β : Type} [Enc α] [Enc α'] [Enc β] {t : Nat} {x : β} {v v' : Value} {xs : List α} {xs' : List α'} (h : lk Γ t = some (Pr.row (Pr.row (isA x) v xs) v' xs')) : Od Γ (.tmp t) (isA x) := od_mono (od h) fun _ _ k => k.1.1
theorem sy_fieldAddrR {S α β : Type} [Enc S] [Enc α] [Enc β] {x : Operand} {T : TypeId} {k : Nat} {f : S → α} {d : S} {v : Value} {xs : List β} (hf : FieldP P T k f) (hx : Od Γ x (Pr.row (isA d) v xs)) : StepY P (.fieldAddr T x k) ty Γ (Pr.row (isA (f d)) v xs) :=
  fun c a hm => by
    obtain ⟨u, h1, h2⟩ := sy_fieldAddr (ty := ty) hf (od_mono hx fun _ _ k => k.1) c a hm
    exact ⟨u, ⟨h1, (hx.get hm (by simp [Op.operands])).2⟩, h2⟩
theorem sy_loadR {β : Type} [Enc β] {x : Operand} {T : TypeId} {v : Value} {xs : List β} (hT : TyP P T Raw) (hx : Od Γ x (Pr.row (isA (Raw.mk v)) v xs)) : StepY P (.load T x) ty Γ (isOS v xs) :=
  fun c a hm => by
    obtain ⟨u, h1, h2⟩ := sy_load (ty := ty) hT (od_mono hx fun _ _ k => k.1) c a hm
    have e : u = v := h1.1
    exact ⟨u, ⟨e, (hx.get hm (by simp [Op.operands])).2⟩, h2⟩
theorem sp_fieldAddrR {S α β : Type} [Enc S] [Enc α] [Enc β] {x : Operand} {T : TypeId} {k : Nat} {f : S → α} {d : S} {v : Value} {xs : List β} (hf : FieldP P T k f) (hx : Od Γ x (Pr.row (isA d) v xs)) : StepP P (.fieldAddr T x k) ty Γ (Pr.row (isA (f d)) v xs) := (sy_fieldAddrR hf hx).step
theorem sp_loadR {β : Type} [Enc β] {x : Operand} {T : TypeId} {v : Value} {xs : List β} (hT : TyP P T Raw) (hx : Od Γ x (Pr.row (isA (Raw.mk v)) v xs)) : StepP P (.load T x) ty Γ (isOS v xs) := (sy_loadR hT hx).step
/-- A header in a variable that is let go is a list from here on. -/
theorem st_thaw {α α' β : Type} [Enc α] [Enc α'] [Enc β] {E : TypeId} {v : Value} {l : List β} {x : α} {x' : α'} (ks t : Nat) (h : St n F0 js Γ w0 a w) (hs : js[ks]? = some (Item.sl E v l)) (e : lk Γ t = some (isA x)) (hu : UnR v l x x') :
    St n F0 (js.eraseIdx ks) ((t, isA x') :: Γ) w0 a w := by
  have hO := own_up (h.it hs) (B := w0.heap.size) (fun b hb => h.low ks _ b hs hb)
  have hv : val (vw (pf F0 (Its (js.eraseIdx ks))) w) v l := by
    have := own_free (F0 := pf F0 (Its (js.eraseIdx ks))) hO (by rw [its_erase]; exact fun b hb => pf_erase hb) (fun q hq => by
      rw [its_erase]
      refine erase_out h.apart (its_at hs) (ob_iff.2 hq) ?_
      cases hf : F0 q with
      | false => rfl
      | true => have := (own_lt hO (ob_iff.2 hq)).1; have := h.base q hf; omega)
    exact this
  have h1 := st_drop ks h
  have hA := h1.at_
  refine ⟨⟨hA.size, hA.defers, hA.own, fun s χ hq => ?_⟩, h1.apart, h1.own, h1.low, h1.below, h1.base⟩
  unfold lk at hq
  cases hbq : Nat.beq t s with
  | true =>
    rw [hbq] at hq
    simp only [cond_true, Option.some.injEq] at hq
    have := Nat.eq_of_beq_eq_true hbq
    subst this; subst hq
    obtain ⟨b, off, h2, vs, h3, h4⟩ := hA.sat t _ e
    exact ⟨b, off, h2, vs, hu.out _ _ hv h3, h4⟩
  | false => rw [hbq] at hq; exact hA.sat s χ hq
end
end Go.Proofs.YtnnhmgcigoiceaaGreatDoor.Wh
