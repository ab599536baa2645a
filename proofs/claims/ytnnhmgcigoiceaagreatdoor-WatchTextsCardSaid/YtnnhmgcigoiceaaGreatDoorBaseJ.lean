/-
  What is proved: parts of lists; lists without room behind them, and what is appended to them.
-/
import Derived.Test.YtnnhmgcigoiceaaGreatDoorBaseI
import Derived.Deep.AppendSrc
namespace Go.Proofs.YtnnhmgcigoiceaaGreatDoor.Wh
open Go Go.RowKit

section
variable {P : Program} {Γ : List (Nat × Pr)} {ty : TypeId}
theorem sp_sliceTo {x hi : Operand} {T E : TypeId} {α : Type} [Enc α] {xs ys : List α} {m : Int} (hT : SlP P T E α) (hx : Od Γ x (isV xs)) (hh : Od Γ hi (isV m)) (h : cut xs m = some ys) : StepP P (.slice T x none (some hi) none) ty Γ (isV ys) :=
  step_pure fun c w a hc' hm => by
    have hv : slice c.c (a.eval x) xs := hx.get hm (by simp [Op.operands])
    have hk := get_int hh hm (by simp [Op.operands])
    unfold cut at h
    split at h
    · rename_i q
      cases h
      rcases hv with ⟨a0, cap, hv, hcm, rfl⟩ | ⟨b, off, cap, hv, hle, hcm, hh⟩
      · have hm0 : m = 0 := by have := q.2; simp at this; omega
        subst hm0
        refine ⟨.slice (if cap = 0 then a0 else a0.map (·.add (0 * Enc.size α))) 0 cap, ?_, .inl ⟨_, cap, rfl, hcm, by simp⟩⟩
        simp [execOp, plain, hv, hk, Instr.sliceAt, Instr.slice, Instr.sliceBounds, Instr.sliceBound, asIntOf, run_underlying hT.desc, hT.elem.sizeOf w]
      · have hi : 0 ≤ m ∧ m ≤ (cap : Int) := ⟨q.1, by omega⟩
        have hl : (xs.take m.toNat).length = m.toNat := by rw [List.length_take]; omega
        refine ⟨.slice (some ⟨b, off, none⟩) m.toNat cap, ?_, .inr ⟨b, off, cap, by rw [hl], by rw [hl]; omega, hcm, fun i hi => ?_⟩⟩
        · simp [execOp, plain, hv, hk, Instr.sliceAt, Instr.slice, Instr.sliceBounds, Instr.sliceBound, asIntOf, run_underlying hT.desc, hT.elem.sizeOf w, hi, Addr.add_lit]
        · rw [List.getElem_take]
          exact hh i (by omega)
    · cases h
theorem sp_sliceFrom {x lo : Operand} {T E : TypeId} {α : Type} [Enc α] {xs ys : List α} {m : Int} (hT : SlP P T E α) (hx : Od Γ x (isV xs)) (hh : Od Γ lo (isV m)) (h : cutF xs m = some ys) : StepP P (.slice T x (some lo) none none) ty Γ (isV ys) :=
  step_pure fun c w a hc' hm => by
    have hv : slice c.c (a.eval x) xs := hx.get hm (by simp [Op.operands])
    have hk := get_int hh hm (by simp [Op.operands])
    unfold cutF at h
    split at h
    · rename_i q
      cases h
      rcases hv with ⟨a0, cap, hv, hcm, rfl⟩ | ⟨b, off, cap, hv, hle, hcm, hh⟩
      · have hm0 : m = 0 := by have := q.2; simp at this; omega
        subst hm0
        refine ⟨.slice (if cap = 0 then a0 else a0.map (·.add (0 * Enc.size α))) 0 cap, ?_, .inl ⟨_, cap, rfl, hcm, by simp⟩⟩
        simp [execOp, plain, hv, hk, Instr.sliceAt, Instr.slice, Instr.sliceBounds, Instr.sliceBound, asIntOf, run_underlying hT.desc, hT.elem.sizeOf w]
      · have hi : 0 ≤ m ∧ m ≤ (xs.length : Int) := ⟨q.1, by omega⟩
        have hl : (xs.drop m.toNat).length = xs.length - m.toNat := by rw [List.length_drop]
        refine ⟨.slice (if cap = m.toNat then some ⟨b, off, none⟩ else some ⟨b, off + m.toNat * Enc.size α, none⟩) (xs.length - m.toNat) (cap - m.toNat), ?_, ?_⟩
        · simp [execOp, plain, hv, hk, Instr.sliceAt, Instr.slice, Instr.sliceBounds, Instr.sliceBound, asIntOf, run_underlying hT.desc, hT.elem.sizeOf w, hi, Addr.add_lit]
        · by_cases e : cap = m.toNat
          · rw [if_pos e]
            have e0 : xs.length - m.toNat = 0 := by omega
            refine .inl ⟨some ⟨b, off, none⟩, cap - m.toNat, by rw [e0], by omega, List.drop_eq_nil_of_le (by omega)⟩
          · rw [if_neg e]
            refine .inr ⟨b, _, cap - m.toNat, by rw [hl], by rw [hl]; omega, by omega, fun i hi => ?_⟩
            rw [hl] at hi
            rw [List.getElem_drop, Nat.add_assoc, ← Nat.add_mul]
            exact hh (m.toNat + i) (by omega)
    · cases h
/-- A slice without room behind what it holds. -/
def Pr.full {α : Type} [Enc α] (xs : List α) : Pr := ⟨fun c v => slice c.c v xs ∧ ∃ a, v = .slice a xs.length xs.length, fun hc ⟨h1, h2⟩ => ⟨slice_mono hc.1 h1, h2⟩⟩
theorem sp_slice3 {x hi mx : Operand} {T E : TypeId} {α : Type} [Enc α] {xs ys : List α} {m m' : Int} (hT : SlP P T E α) (hx : Od Γ x (isV xs)) (hh : Od Γ hi (isV m)) (hh' : Od Γ mx (isV m')) (h : fullO xs m = some ys) (h' : fullO xs m' = some ys) : StepP P (.slice T x none (some hi) (some mx)) ty Γ (Pr.full ys) :=
  step_pure fun c w a hc' hm => by
    have hv : slice c.c (a.eval x) xs := hx.get hm (by simp [Op.operands])
    have hk := get_int hh hm (by simp [Op.operands])
    have hk' := get_int hh' hm (by simp [Op.operands])
    unfold fullO at h h'
    split at h
    · rename_i q
      split at h'
      · rename_i q'
        subst q; subst q'; cases h
        rcases hv with ⟨a0, cap, hv, hcm, rfl⟩ | ⟨b, off, cap, hv, hle, hcm, hh⟩
        · refine ⟨.slice a0 0 0, ?_, .inl ⟨a0, 0, rfl, Nat.zero_le _, rfl⟩, a0, rfl⟩
          simp [execOp, plain, hv, hk, hk', Instr.sliceAt, Instr.slice, Instr.sliceBounds, Instr.sliceBound, asIntOf, run_underlying hT.desc, hT.elem.sizeOf w]
        · have hi : (xs.length : Int) ≤ (cap : Int) := by omega
          refine ⟨.slice (some ⟨b, off, none⟩) xs.length xs.length, ?_, .inr ⟨b, off, xs.length, rfl, Nat.le_refl _, by omega, hh⟩, _, rfl⟩
          simp [execOp, plain, hv, hk, hk', Instr.sliceAt, Instr.slice, Instr.sliceBounds, Instr.sliceBound, asIntOf, run_underlying hT.desc, hT.elem.sizeOf w, hle, Addr.add_lit]
      · cases h'
    · cases h
theorem sp_slice3B {x hi mx : Operand} {T E : TypeId} {α : Type} [Enc α] {xs ys : List α} {m m' : Int} (hT : SlP P T E α) (hx : Od Γ x (isV xs)) (hh : Od Γ hi (isV m)) (hh' : Od Γ mx (isV m')) (h : fullB xs m m' = some ys) : StepP P (.slice T x none (some hi) (some mx)) ty Γ (Pr.full ys) := by
  unfold fullB at h
  split at h
  · rename_i q
    cases h
    exact sp_slice3 hT hx hh hh' (by unfold fullO; rw [if_pos q.1]) (by unfold fullO; rw [if_pos q.2])
  · cases h
theorem sp_appendFull {x y : Operand} {T E : TypeId} {α : Type} [Enc α] {xs ys zs : List α} (hT : SlP P T E α) (hz : ZeroP P E α) (hx : Od Γ x (Pr.full xs)) (hy : Od Γ y (isV ys)) (h : appF xs ys = some zs) :
    StepP P (.call { callee := .builtin .append, args := #[x, y], argTypes := #[T, T] }) ty Γ (isV zs) := by
  intro F w a hF hm
  obtain ⟨hxs, a0, hxv⟩ := hx.get hm (by simp [Op.operands, Call.operands])
  have hyv : slice (vw F w) (a.eval y) ys := hy.get hm (by simp [Op.operands, Call.operands])
  have hxs : slice (vw F w) (a.eval x) xs := hxs
  unfold appF at h
  split at h
  · cases h
  · rename_i hne
    obtain ⟨rfl, hle⟩ := app_some h
    obtain ⟨i, z, hi, hzz, hsz, hzs, hpos, hby⟩ := hz.out
    -- what is there, as cells
    have cellsOf : ∀ (v : Value) (l : List α), slice (vw F w) v l → ∀ n, l.length = n → ∃ ad cc cs, v = .slice ad n cc ∧ RepL (vw F w) cs l ∧ cs.length = n * Enc.size α ∧
        ((ad = none ∨ n = 0) → n = 0) ∧ ∀ j u, cs[j]? = some u → ∃ p, ad = some p ∧ w.cell? (p.add j) = some u := by
      intro v l hv n hn
      rcases hv with ⟨a0, cap, rfl, _, rfl⟩ | ⟨b, off, cap, rfl, _, _, hh⟩
      · subst hn
        exact ⟨a0, cap, [], rfl, rfl, by simp, fun _ => rfl, fun j u e => by simp at e⟩
      · obtain ⟨cs, h1, h2⟩ := slice_cells (c := vw F w) (b := b) (off := off) l 0 (fun i hi => by simpa using hh i hi)
        refine ⟨_, cap, cs, by rw [hn], h1, by rw [← hn]; exact RepL.len h1, fun q => by rcases q with q | q; cases q; exact q, fun j u e => ⟨_, rfl, ?_⟩⟩
        have := vw_cell (h2 j u e)
        rw [Addr.add_lit]; simpa using this
    obtain ⟨ax, cx, olds, ex, hox, hlx, _, hcx⟩ := cellsOf _ _ hxs _ rfl
    obtain ⟨ay, cy, news, ey, hny, hly, hay, hcy⟩ := cellsOf _ _ hyv _ rfl
    obtain ⟨p, rfl⟩ : ∃ p, ay = some p := by
      cases ay with
      | none => exact absurd (hay (.inl rfl)) hne
      | some p => exact ⟨p, rfl⟩
    rw [ex] at hxv
    have ecx : cx = xs.length := by cases hxv; rfl
    subst ecx
    have hsrc : Src P i.size T (.slice (some p) ys.length cy) ys.length news w := Src.ofSlice w hT.desc p _ _ news (by rw [hly, hsz]) (fun j u e => by obtain ⟨p', hp', hc⟩ := hcy j u e; cases hp'; exact hc) (fun u hu => hny.cell u hu)
    have hold : (Builtin.firstCells i.size xs.length (.slice ax xs.length xs.length)).run P w.drew = .ok olds.toArray w.drew := by
      cases ax with
      | none =>
        have : olds = [] := by
          cases olds with
          | nil => rfl
          | cons u r => obtain ⟨p', hp', _⟩ := hcx 0 u rfl; cases hp'
        subst this
        simp [Builtin.firstCells]
      | some q => exact run_firstCells_some w.drew i.size xs.length q xs.length xs.length olds (by rw [hlx, hsz]) (fun j u e => by
          obtain ⟨p', hp', hc⟩ := hcx j u e
          cases hp'
          simpa using hc)
    have h63 : xs.length + ys.length ≤ maxLen := by unfold maxLen; omega
    have hbytes : (xs.length + ys.length) * i.bytes ≤ 140737488355328 := by
      have : (xs.length + ys.length) * i.bytes ≤ 4294967296 * 16384 := Nat.mul_le_mul (by omega) hby
      omega
    have hr := run_append_grow_src (P := P) w T T ty E i z hT.desc hi hzz ax xs.length xs.length olds hold (.slice (some p) ys.length cy) ys.length news hsrc (by omega) (by unfold maxLen at h63; omega) (growslice_fits (by omega) hbytes)
    have hrun : (execOp a.eval (plain (.call { callee := .builtin .append, args := #[x, y], argTypes := #[T, T] }) ty)).run P w = .ok (.value (.slice (some ⟨w.heap.size, 0, none⟩) (xs.length + ys.length) (grownCap w (xs.length + ys.length) xs.length E)))
        (w.drew.alloc (.cells ((olds ++ news).toArray ++ Builtin.zeroCells z.cells (grownCap w (xs.length + ys.length) xs.length E - (xs.length + ys.length))) E)) := by
      simp [execOp, plain, resolve, invoke, builtin, ex, ey, hr]
    unfold Ex
    rw [hrun]
    generalize hcat : (olds ++ news).toArray ++ Builtin.zeroCells z.cells (grownCap w (xs.length + ys.length) xs.length E - (xs.length + ys.length)) = cat
    have hb : Below w.heap.size w (w.drew.alloc (.cells cat E)) := (Below.refl w.heap.size w).drew.alloc (Nat.le_refl _) _
    refine ⟨hb, ?_⟩
    have hle' := vw_below (F := F) hb
    have hge := grownCap_ge w (xs.length + ys.length) xs.length E
    have hcm := grownCap_le_maxLen w (xs.length + ys.length) xs.length E h63
    show slice (vw F (w.drew.alloc (.cells cat E))) _ (xs ++ ys)
    refine .inr ⟨w.heap.size, 0, _, by rw [List.length_append], by rw [List.length_append]; exact hge, hcm, fun j hj => ?_⟩
    obtain ⟨vs, hvs, hvc⟩ := (hox.append hny).get j hj
    refine ⟨vs, Enc.mono hle' hvs, fun k v e => ?_⟩
    have h1 := hvc k v e
    have h2 := vw_new (F := F) (w := w.drew) hF (.cells cat E) (0 + j * Enc.size α + k)
    have h3 := cell_new w.drew cat E (0 + j * Enc.size α + k)
    rw [show w.drew.heap.size = w.heap.size from rfl] at h2 h3
    rw [h2, h3, ← hcat, Nat.zero_add]
    rw [Array.getElem?_append_left (by
      have := (List.getElem?_eq_some_iff.1 h1).1
      simpa using this)]
    simpa using h1
/-! ### parts of parts of boxes -/
theorem setA_some {α : Type} {n : Nat} {x x' : Vector α n} {i : Int} {z : α} (h : setA x i z = some x') : ∃ q : i.toNat < n, 0 ≤ i ∧ x' = x.set i.toNat z q := by
  unfold setA at h
  split at h
  · rename_i q
    cases h
    exact ⟨q.2, q.1, rfl⟩
  · cases h
theorem repL_at {α : Type} [Enc α] {c : Mem} : ∀ {cells : List Value} {xs : List α}, RepL c cells xs → ∀ k y, xs[k]? = some y → Enc.rep c ((cells.drop (k * Enc.size α)).take (Enc.size α)) y
  | _, [], _, k, y, e => by cases e
  | _, x :: r, ⟨v1, v2, he, h1, h2⟩, 0, y, e => by
    simp at e; subst e
    have hl := Enc.len h1
    rw [he, Nat.zero_mul, List.drop_zero, ← hl, List.take_left]
    exact h1
  | _, x :: r, ⟨v1, v2, he, h1, h2⟩, k + 1, y, e => by
    have hl := Enc.len h1
    rw [he, Nat.succ_mul, Nat.add_comm, ← hl, List.drop_length_add_append, hl]
    exact repL_at h2 k y (by simpa using e)
theorem SetF.at_ {β γ : Type} [Enc β] [Enc γ] {n off : Nat} {x x' : Vector β n} {i : Int} {y y' : β} {z : γ} (h0 : idxA x i = some y) (hs : SetF off y z y') (h1 : setA x i y' = some x') : SetF (i.toNat * Enc.size β + off) x z x' := ⟨fun c l m k1 k2 => by
  obtain ⟨q, q0, rfl⟩ := setA_some h1
  have k1 : RepL c l x.toList := k1
  have hlen := RepL.len k1
  have hy : x.toList[i.toNat]? = some y := by
    unfold idxA idx at h0
    rw [if_neg (by omega)] at h0
    exact h0
  have hrow := repL_at k1 _ _ hy
  obtain ⟨f1, f2⟩ := hs.out c _ m hrow k2
  have hrl := Enc.len hrow
  have hb : (i.toNat + 1) * Enc.size β ≤ l.length := by
    rw [hlen]
    exact Nat.mul_le_mul_right _ (by have : x.toList.length = n := by simp
                                     omega)
  rw [Nat.succ_mul] at hb
  rw [hrl] at f1
  refine ⟨by omega, ?_⟩
  have f3 := RepL.set i.toNat k1 f2 (by simpa using q)
  show RepL c _ (x.set i.toNat y' q).toList
  rw [Vector.toList_set]
  have hf2 := Enc.len f2
  rw [hf2] at f3
  have e : l.take (i.toNat * Enc.size β + off) ++ m ++ l.drop (i.toNat * Enc.size β + off + m.length) =
      l.take (i.toNat * Enc.size β) ++ (((l.drop (i.toNat * Enc.size β)).take (Enc.size β)).take off ++ m ++ ((l.drop (i.toNat * Enc.size β)).take (Enc.size β)).drop (off + m.length)) ++ l.drop (i.toNat * Enc.size β + Enc.size β) := by
    rw [List.take_add, List.take_take, Nat.min_eq_left (by omega), List.drop_take, List.drop_drop, List.append_assoc, List.append_assoc, List.append_assoc, List.append_assoc, List.append_assoc]
    congr 2
    congr 1
    have e1 : l.drop (i.toNat * Enc.size β + Enc.size β) = (l.drop (i.toNat * Enc.size β + (off + m.length))).drop (Enc.size β - (off + m.length)) := by
      rw [List.drop_drop]; congr 1; omega
    rw [e1, List.take_append_drop]
    congr 1; omega
  rw [e]
  exact f3⟩
theorem sp_indexAddrQ {α : Type} [Enc α] {x k : Operand} {T E : TypeId} {m b o : Nat} {v : Vector α m} {i : Int} {y : α} (hT : ArP P T E m α) (hx : Od Γ x (Pr.is (.pointer (some ⟨b, o, none⟩)))) (hk : Od Γ k (isV i)) (h : idxA v i = some y) : StepP P (.indexAddr T x k) ty Γ (Pr.is (.pointer (some ⟨b, o + i.toNat * Enc.size α, none⟩))) :=
  step_pure fun c w a hc hm => by
    have hkv := get_int hk hm (by simp [Op.operands])
    have hv : a.eval x = .pointer (some ⟨b, o, none⟩) := hx.get hm (by simp [Op.operands])
    obtain ⟨h0, hlt, _⟩ := idx_some h
    refine ⟨.pointer (some ⟨b, o + i.toNat * Enc.size α, none⟩), ?_, rfl⟩
    have hi : 0 ≤ i ∧ i < (m : Int) := ⟨h0, by have := hlt; simp at this; omega⟩
    simp [execOp, plain, hkv, hv, Instr.indexAt, Instr.sureAddr, asIntOf, run_underlying hT.desc, hi, hT.elem.sizeOf w, Addr.add_lit]
end
end Go.Proofs.YtnnhmgcigoiceaaGreatDoor.Wh
