/-
  What is proved: variables of the call's own that hold headers of own slices: places in them, what is set there, what is read.
-/
import Derived.Test.YtkbilbeaedocjaaBaseF
namespace Go.Proofs.Ytkbilbeaedocjaa.Wh
open Go Go.RowKit

/-- What a variable holds when a part of it is set. -/
structure SetF {α β : Type} [Enc α] [Enc β] (off : Nat) (x : α) (z : β) (x' : α) : Prop where
  out : ∀ (c : Mem) (l m : List Value), Enc.rep c l x → Enc.rep c m z → off + m.length ≤ l.length ∧ Enc.rep c (l.take off ++ m ++ l.drop (off + m.length)) x'
theorem SetF.self {α : Type} [Enc α] {x z : α} : SetF 0 x z z := ⟨fun c l m h1 h2 => by
  have e : m.length = l.length := by rw [Enc.len h1, Enc.len h2]
  rw [Nat.zero_add, e, List.take_zero, List.nil_append, List.drop_length, List.append_nil]
  exact ⟨Nat.le_refl _, h2⟩⟩
theorem SetF.fst {α β γ : Type} [Enc α] [Enc β] [Enc γ] {off : Nat} {a a' : α} {b : β} {z : γ} (h : SetF off a z a') : SetF off (a, b) z (a', b) := ⟨fun c l m h1 h2 => by
  obtain ⟨l1, l2, rfl, k1, k2⟩ := h1
  obtain ⟨q1, q2⟩ := h.out c l1 m k1 h2
  refine ⟨by rw [List.length_append]; omega, l1.take off ++ m ++ l1.drop (off + m.length), l2, ?_, q2, k2⟩
  rw [List.take_append_of_le_length (by omega), List.drop_append_of_le_length (by omega)]
  simp only [List.append_assoc]⟩
theorem SetF.snd {α β γ : Type} [Enc α] [Enc β] [Enc γ] {off o : Nat} {a : α} {b b' : β} {z : γ} (h : SetF off b z b') (eo : Enc.size α + off = o) : SetF o (a, b) z (a, b') := ⟨fun c l m h1 h2 => by
  subst eo
  obtain ⟨l1, l2, rfl, k1, k2⟩ := h1
  obtain ⟨q1, q2⟩ := h.out c l2 m k2 h2
  have e := Enc.len k1
  refine ⟨by rw [List.length_append]; omega, l1, l2.take off ++ m ++ l2.drop (off + m.length), ?_, k1, q2⟩
  rw [← e, List.take_length_add_append, show l1.length + off + m.length = l1.length + (off + m.length) from by omega, List.drop_length_add_append]
  simp only [List.append_assoc]⟩
/-- A header that is a list from here on. -/
structure UnR {α α' β : Type} [Enc α] [Enc α'] [Enc β] (v : Value) (l : List β) (x : α) (x' : α') : Prop where
  out : ∀ (c : Mem) (cs : List Value), val c v l → Enc.rep c cs x → Enc.rep c cs x'
theorem UnR.self {β : Type} [Enc β] {v : Value} {l : List β} : UnR v l (Raw.mk v) l := ⟨fun c cs h1 h2 => by
  obtain ⟨u, rfl, h3, _⟩ := rep1_out h2
  have h3 : u = v := h3
  subst h3; exact h1⟩
theorem UnR.fst {α α' β γ : Type} [Enc α] [Enc α'] [Enc β] [Enc γ] {v : Value} {l : List β} {a : α} {a' : α'} {b : γ} (h : UnR v l a a') : UnR v l (a, b) (a', b) := ⟨fun c cs h1 h2 => by
  obtain ⟨l1, l2, rfl, k1, k2⟩ := h2
  exact ⟨l1, l2, rfl, h.out c l1 h1 k1, k2⟩⟩
theorem UnR.snd {α α' β γ : Type} [Enc α] [Enc α'] [Enc β] [Enc γ] {v : Value} {l : List β} {a : α} {a' : α'} {b : γ} (h : UnR v l a a') : UnR v l (b, a) (b, a') := ⟨fun c cs h1 h2 => by
  obtain ⟨l1, l2, rfl, k1, k2⟩ := h2
  exact ⟨l1, l2, rfl, k1, h.out c l2 h1 k2⟩⟩
structure FieldO (P : Program) (T : TypeId) (k o : Nat) : Prop where
  out : ∃ fs fd i, P.underlying T = some (.struct fs) ∧ fs[k]? = some fd ∧ P.info? fd.type = some i ∧ i.size ≠ 0 ∧ fd.offset = o
theorem FieldO.mk' {P : Program} {T : TypeId} {k o : Nat} {fs : Array Field} {fd : Field} (h1 : P.underlying T = some (.struct fs)) (h2 : fs[k]? = some fd) (h3 : (P.info? fd.type).map (fun i => Nat.beq i.size 0) = some false) (h4 : fd.offset = o) : FieldO P T k o := by
  cases h : P.info? fd.type with
  | none => rw [h] at h3; cases h3
  | some i =>
    rw [h] at h3
    simp only [Option.map_some, Option.some.injEq] at h3
    exact ⟨⟨fs, fd, i, h1, h2, h, (fun e => by rw [e] at h3; cases h3), h4⟩⟩
section
variable {P : Program} {Γ : List (Nat × Pr)} {ty : TypeId} {n : Nat} {F0 : Nat → Bool} {js : List Item} {w0 w : World} {a : Act} {ops : Array Oper} {Q : Exit → Act → World → Prop}
theorem sp_fieldAddrP {x : Operand} {T : TypeId} {k o b : Nat} (hf : FieldO P T k o) (hx : Od Γ x (Pr.ptr b)) : StepP P (.fieldAddr T x k) ty Γ (Pr.is (.pointer (some ⟨b, o, none⟩))) :=
  step_pure fun c w a hc hm => by
    have hv : a.eval x = .pointer (some ⟨b, 0, none⟩) := hx.get hm (by simp [Op.operands])
    obtain ⟨fs, fd, i, h1, h2, h3, h4, h5⟩ := hf.out
    refine ⟨.pointer (some ⟨b, o, none⟩), ?_, rfl⟩
    simp [execOp, plain, hv, Instr.fieldAt, run_underlying h1, h2, Instr.sureAddr, fieldPlace, Go.sizeOf, typeInfo, h3, h4, h5, Addr.add_lit]
theorem sp_loadRaw {x : Operand} {T : TypeId} {v : Value} (hT : TyP P T Raw) (hx : Od Γ x (isB (Raw.mk v))) : StepP P (.load T x) ty Γ (Pr.is v) :=
  step_pure fun c w a hc hm => by
    obtain ⟨b, off, vs, hv, hr, hh⟩ := hx.get hm (by simp [Op.operands])
    obtain ⟨u, hrun, hval⟩ := run_load_cells (P := P) hT hr (fun j u e => hc.2 _ _ (hh j u e))
    have : u = v := hval.1
    exact ⟨u, by simp [execOp, plain, hv, Instr.loadAt, Instr.sureAddr, hrun], this⟩
variable {t : TypeId} {ps : String} {af : Array Edge} {r : List Oper} {Δ : List (Nat × Pr)}
/-- 'p.f = y', by what the operands are. -/
theorem s_storeV {k p b off : Nat} {T FT : TypeId} {y : Operand} {α β : Type} [Enc α] [Enc β] {x x' : α} {z : β} (hT : TyP P FT β) (h : St n F0 js Γ w0 a w) (hk : js[k]? = some (Item.box T b x)) (hl : AllOd Γ Δ) (hC : AllC Δ)
    (hpv : a.eval (.tmp p) = .pointer (some ⟨b, off, none⟩)) (hyv : val (vw (pf F0 (Its js)) w) (a.eval y) z) (hs : SetF off x z x')
    (K : ∀ w', St n F0 (js.set k (Item.box T b x')) Δ w0 a w' → Mem.le (vw (pf F0 (Its js)) w) (vw (pf F0 (Its (js.set k (Item.box T b x')))) w') → wpList P ops Q r a w') :
    wpList P ops Q (⟨none, .store FT (.tmp p) y, t, ps, af, none⟩ :: r) a w := by
  have h' := h.weak hl
  have hO : OwnB T 0 (vw (pf F0 (Its js)) w) w b x := h.it hk
  obtain ⟨cur, h1, h2⟩ := hO.out
  obtain ⟨i, hi, hsz⟩ := hT.info
  have hcells := val_cells hyv
  have hlen := Enc.len hcells
  have hone := Enc.cell hcells
  obtain ⟨hfit, hrep⟩ := hs.out _ _ _ h2 hcells
  have hst := run_storeCells_at P b off T (a.eval y).cells.toList 0 cur w h1 (by simp at hfit; omega) hone
  have hcs : (a.eval y).cells.size = i.size := by rw [hsz, ← hlen]; simp
  have hr : (execOp a.eval ⟨none, .store FT (.tmp p) y, t, ps, af, none⟩).run P w = .ok .skip (w.setRow b (cur.toList.take off ++ (a.eval y).cells.toList ++ cur.toList.drop (off + (a.eval y).cells.toList.length)).toArray) := by
    simp only [Nat.add_zero] at hst
    simp only [execOp, hpv, Instr.storeAt, Instr.sureAddr, storeVar, Go.sizeOf, typeInfo, Sem.run_bind, run_program, Result.andThen_ok, hi, Sem.run_pure]
    simp [hcs, hst]
  unfold wpList
  simp only [Region.wanted, if_true]
  refine .inl (wp_of_ex ?_)
  unfold Ex
  rw [hr]
  generalize hcat : (cur.toList.take off ++ (a.eval y).cells.toList ++ cur.toList.drop (off + (a.eval y).cells.toList.length)).toArray = cat
  have hblk : ∀ q, q < w.heap.size → bx b q = false → (w.setRow b cat).heap[q]? = w.heap[q]? := fun q hq hb => setRow_other _ _ _ _ (fun e => by rw [bx_iff.2 e] at hb; cases hb)
  have hset := set_self (its_at hk)
  have hle := vw_turn (F0 := F0) (its_at hk) hblk (o' := bx b) (fun q hq => .inl hq)
  have hsize : (w.setRow b cat).heap.size = w.heap.size := by simp
  have hlow := h.low k _ b hk (bx_iff.2 rfl)
  have hB : Below w0.heap.size w0 (w.setRow b cat) := h.below.trans ⟨rfl, rfl, rfl, by rw [hsize]; exact Nat.le_refl _, fun q hq => setRow_other _ _ _ _ (fun e => by omega), Nat.le_refl _⟩
  refine K _ (h'.change hk (it' := Item.box T b x') (h'.at_.turn hC hle fun q hq => ?_) hB (by rw [hsize]; exact Nat.le_refl _) (fun q hq => .inl hq) ⟨⟨_, setRow_heap w b cur _ T _ h1, Enc.mono hle (by rw [← hcat]; simpa using hrep)⟩, Nat.zero_le _⟩ hblk hle) ?_
  · rw [hsize]
    have hq' : pf F0 ((Its js).set k (bx b)) q = true := hq
    have e : (Its js).set k (bx b) = Its js := hset
    rw [e] at hq'
    exact h.at_.own q hq'
  · rw [its_set]; exact hle
/-- 'p.f = y'. -/
theorem s_storeP {k p b off : Nat} {T FT : TypeId} {y : Operand} {α β : Type} [Enc α] [Enc β] {x x' : α} {z : β} (hT : TyP P FT β) (h : St n F0 js Γ w0 a w) (hk : js[k]? = some (Item.box T b x)) (hl : AllOd Γ Δ) (hC : AllC Δ)
    (hp : Od Γ (.tmp p) (Pr.is (.pointer (some ⟨b, off, none⟩)))) (hy : Od Γ y (isV z)) (hs : SetF off x z x')
    (K : ∀ w', St n F0 (js.set k (Item.box T b x')) Δ w0 a w' → Mem.le (vw (pf F0 (Its js)) w) (vw (pf F0 (Its (js.set k (Item.box T b x')))) w') → wpList P ops Q r a w') :
    wpList P ops Q (⟨none, .store FT (.tmp p) y, t, ps, af, none⟩ :: r) a w :=
  s_storeV hT h hk hl hC (hp.get (h.at_.met [.tmp p]) (by simp)) (hy.get (h.at_.met [y]) (by simp)) hs K
/-- A header in a variable is a list from here on. -/
theorem st_unraw {α α' β : Type} [Enc α] [Enc α'] [Enc β] {T E : TypeId} {b : Nat} {v : Value} {l : List β} {x : α} {x' : α'} (ks kb : Nat) (h : St n F0 js Γ w0 a w) (hs : js[ks]? = some (Item.sl E v l)) (hb : (js.eraseIdx ks)[kb]? = some (Item.box T b x)) (hu : UnR v l x x') :
    St n F0 ((js.eraseIdx ks).set kb (Item.box T b x')) Γ w0 a w := by
  have hO := own_up (h.it hs) (B := w0.heap.size) (fun b hb => h.low ks _ b hs hb)
  have hv : val (vw (pf F0 (Its (js.eraseIdx ks))) w) v l := by
    have := own_free (F0 := pf F0 (Its (js.eraseIdx ks))) hO (by rw [its_erase]; exact fun b hb => pf_erase hb) (fun q hq => by
      rw [its_erase]
      refine erase_out h.apart (its_at hs) (ob_iff.2 hq) ?_
      cases hf : F0 q with
      | false => rfl
      | true => have := (own_lt hO (ob_iff.2 hq)).1; have := h.base q hf; omega)
    exact this
  exact (st_drop ks h).swap hb rfl fun hB => by
    obtain ⟨cur, h1, h2⟩ := OwnB.out hB
    exact ⟨⟨cur, h1, hu.out _ _ hv h2⟩, Nat.zero_le _⟩
end
end Go.Proofs.Ytkbilbeaedocjaa.Wh
