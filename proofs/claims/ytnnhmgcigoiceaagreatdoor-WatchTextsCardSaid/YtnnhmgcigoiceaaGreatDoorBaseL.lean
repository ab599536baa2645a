/-
  What is proved: calls of functions that are handed function values which change things; what such a value does to the things that it knows.
-/
import Derived.Test.YtnnhmgcigoiceaaGreatDoorBaseK
namespace Go.Proofs.YtnnhmgcigoiceaaGreatDoor.Wh
open Go Go.RowKit

section
variable {P : Program} {Γ : List (Nat × Pr)} {n : Nat} {F0 : Nat → Bool} {js : List Item} {w0 w : World} {a : Act} {ops : Array Oper} {Q : Exit → Act → World → Prop}
variable {t : TypeId} {ps : String} {af : Array Edge} {r : List Oper} {Δ : List (Nat × Pr)}
theorem s_enterF {d : Option Nat} {f : Nat} {C : Call} {φs : List Pr} {js1 fr : List Item} {ρ : ResF} {vs : List Value} (hd : ∀ q, d = some q → q < n) (hc : CallF P f js1 φs ρ) (h : St n F0 (js1 ++ fr) Γ w0 a w) (hl : AllOd Γ Δ) (hC : AllC Δ)
    (hrun : (execOp a.eval ⟨d, .call C, t, ps, af, none⟩).run P w = .ok (.enter f vs.toArray) w) (hfit : Fit (v2 (pf F0 (Its (js1 ++ fr))) w) φs vs)
    (K : ∀ a' w' x, St n F0 (ρ.js x ++ fr) (upd Δ d (ρ.φ x)) w0 a' w' → Mem.le (vw (pf F0 (Its (js1 ++ fr))) w) (vw (pf F0 (Its (ρ.js x ++ fr))) w') → wpList P ops Q r a' w') :
    wpList P ops Q (⟨d, .call C, t, ps, af, none⟩ :: r) a w := by
  have h' := h.weak hl
  unfold wpList
  simp only [Region.wanted, if_true]
  refine .inl (wp_of_ex ?_)
  unfold Ex
  rw [hrun]
  refine (hc F0 fr w0 w _ h'.wst hfit).mono fun e w' ⟨v, x, hev, hW, hM, hp⟩ => ⟨v, hev, ?_⟩
  have hA : At n (pf F0 (Its (ρ.js x ++ fr))) Δ a w' := h'.at_.turn hC hM hW.lt
  exact K _ w' x ⟨hA.step (Below.refl _ _) hd hp, hW.apart, hW.own, hW.low, hW.below, hW.base⟩ hM
/-- A function that is known by its number. -/
theorem s_callFN {d : Option Nat} {f : Nat} {xs : List Operand} {ts : Array TypeId} {φs : List Pr} {js1 fr : List Item} {ρ : ResF} (hd : ∀ q, d = some q → q < n) (he : Enters P f) (hc : CallF P f js1 φs ρ) (h : St n F0 (js1 ++ fr) Γ w0 a w) (hl : AllOd Γ Δ) (hC : AllC Δ)
    (hx : OdL Δ xs φs)
    (K : ∀ a' w' x, St n F0 (ρ.js x ++ fr) (upd Δ d (ρ.φ x)) w0 a' w' → Mem.le (vw (pf F0 (Its (js1 ++ fr))) w) (vw (pf F0 (Its (ρ.js x ++ fr))) w') → wpList P ops Q r a' w') :
    wpList P ops Q (⟨d, .call { callee := .value (.func f), args := xs.toArray, argTypes := ts }, t, ps, af, none⟩ :: r) a w := by
  have h' := h.weak hl
  have hm : ∀ xs, Met Δ xs (v2 (pf F0 (Its (js1 ++ fr))) w) a := h'.at_.met
  have hfit := OdL.fit (hm xs) hx (fun y hy => hy)
  refine s_enterF (vs := xs.map a.eval) hd hc h hl hC ?_ hfit K
  have h0 : a.eval (.func f) = .func (.func f) #[] #[] := rfl
  simp only [execOp, resolve, h0, Deferred.ofValue, invoke]
  simp [he _ w]
/-- A function value that is known by what it holds. -/
theorem s_callFV {d : Option Nat} {f : Nat} {g : Operand} {xs : List Operand} {ts : Array TypeId} {φs κs : List Pr} {js1 fr : List Item} {ρ : ResF} (hd : ∀ q, d = some q → q < n) (he : Enters P f) (hc : CallF P f js1 (φs ++ κs) ρ) (h : St n F0 (js1 ++ fr) Γ w0 a w) (hl : AllOd Γ Δ) (hC : AllC Δ)
    (hg : Od Δ g (Pr.clo f κs)) (hx : OdL Δ xs φs)
    (K : ∀ a' w' x, St n F0 (ρ.js x ++ fr) (upd Δ d (ρ.φ x)) w0 a' w' → Mem.le (vw (pf F0 (Its (js1 ++ fr))) w) (vw (pf F0 (Its (ρ.js x ++ fr))) w') → wpList P ops Q r a' w') :
    wpList P ops Q (⟨d, .call { callee := .value g, args := xs.toArray, argTypes := ts }, t, ps, af, none⟩ :: r) a w := by
  have h' := h.weak hl
  have hm : ∀ xs, Met Δ xs (v2 (pf F0 (Its (js1 ++ fr))) w) a := h'.at_.met
  have hfit := OdL.fit (hm xs) hx (fun y hy => hy)
  obtain ⟨cap, hv, hk⟩ := hg.get (hm [g]) (by simp)
  refine s_enterF (vs := xs.map a.eval ++ cap.toList) hd hc h hl hC ?_ (hfit.append (Fit.mono (c := ⟨vw (pf F0 (Its (js1 ++ fr))) w, vw (pf F0 (Its (js1 ++ fr))) w⟩) (c' := v2 (pf F0 (Its (js1 ++ fr))) w) ⟨Mem.le_refl _, fun _ _ h => vw_cell h⟩ hk)) K
  have h1 : xs.toArray.map a.eval ++ cap = (xs.map a.eval ++ cap.toList).toArray := by
    apply Array.ext'; simp
  simp only [execOp, resolve, hv, Deferred.ofValue, invoke]
  simp [he _ w]
end
/-- What a function value does to things that it knows: from one state of theirs to another. -/
structure EffP (P : Program) (g : FuncId) (κs : List Pr) {σ X α : Type} [Enc α] (J : σ → X → List Item) (F : σ → α → Option σ) : Prop where
  en : Enters P g
  ok : ∀ {s : σ} {x : X} {a : α} {s' : σ}, F s a = some s' → CallF P g (J s x) ([isV a] ++ κs) ⟨X, fun x' => J s' x', fun _ => Pr.top⟩
/-! ### cells that are copied into parts of boxes -/
/-- What a variable holds when some cells of it are set. -/
structure SetC {α β : Type} [Enc α] [Enc β] (off : Nat) (x : α) (zs : List β) (x' : α) : Prop where
  out : ∀ (c : Mem) (l m : List Value), Enc.rep c l x → RepL c m zs → off + m.length ≤ l.length ∧ Enc.rep c (l.take off ++ m ++ l.drop (off + m.length)) x'
theorem repL_drop {α : Type} [Enc α] {c : Mem} : ∀ {cells : List Value} {xs : List α}, RepL c cells xs → ∀ k, RepL c (cells.drop (k * Enc.size α)) (xs.drop k)
  | _, [], h, k => by cases h; simp [RepL]
  | _, x :: r, h, 0 => by simpa using h
  | _, x :: r, ⟨v1, v2, he, h1, h2⟩, k + 1 => by
    have e := Enc.len h1
    rw [he, Nat.succ_mul, Nat.add_comm, ← e, List.drop_length_add_append, e, List.drop_succ_cons]
    exact repL_drop h2 k
theorem SetC.copy {α : Type} [Enc α] {n : Nat} {x : Vector α n} {ys : List α} : SetC 0 x (ys.take n) (copyA x ys) := ⟨fun c l m h1 h2 => by
  have h1 : RepL c l x.toList := h1
  have e1 := RepL.len h1
  have e2 := RepL.len h2
  have hle : (ys.take n).length ≤ x.toList.length := by simp; omega
  have hm : m.length ≤ l.length := by rw [e1, e2]; exact Nat.mul_le_mul_right _ hle
  refine ⟨by omega, ?_⟩
  show RepL c _ (copyA x ys).toList
  have : (copyA x ys).toList = ys.take n ++ x.toList.drop (ys.take n).length := by unfold copyA; simp [Vector.toList]
  rw [this, List.take_zero, List.nil_append, Nat.zero_add, e2]
  exact h2.append (repL_drop h1 _)⟩
theorem SetC.at_ {β γ : Type} [Enc β] [Enc γ] {n off : Nat} {x x' : Vector β n} {i : Int} {y y' : β} {zs : List γ} (h0 : idxA x i = some y) (hs : SetC off y zs y') (h1 : setA x i y' = some x') : SetC (i.toNat * Enc.size β + off) x zs x' := ⟨fun c l m k1 k2 => by
  obtain ⟨q, q0, rfl⟩ := setA_some h1
  have k1 : RepL c l x.toList := k1
  have hlen := RepL.len k1
  have hy : x.toList[i.toNat]? = some y := by
    unfold idxA idx at h0
    rw [if_neg (by omega)] at h0
    exact h0
  have hrow := repL_at k1 _ _ hy
  obtain ⟨f1, f2⟩ := hs.out c _ m hrow k2
  have hrl := Enc.len hrow
  have hb : (i.toNat + 1) * Enc.size β ≤ l.length := by
    rw [hlen]
    exact Nat.mul_le_mul_right _ (by have : x.toList.length = n := by simp
                                     omega)
  rw [Nat.succ_mul] at hb
  rw [hrl] at f1
  refine ⟨by omega, ?_⟩
  have f3 := RepL.set i.toNat k1 f2 (by simpa using q)
  show RepL c _ (x.set i.toNat y' q).toList
  rw [Vector.toList_set]
  have hf2 := Enc.len f2
  rw [hf2] at f3
  have e : l.take (i.toNat * Enc.size β + off) ++ m ++ l.drop (i.toNat * Enc.size β + off + m.length) =
      l.take (i.toNat * Enc.size β) ++ (((l.drop (i.toNat * Enc.size β)).take (Enc.size β)).take off ++ m ++ ((l.drop (i.toNat * Enc.size β)).take (Enc.size β)).drop (off + m.length)) ++ l.drop (i.toNat * Enc.size β + Enc.size β) := by
    rw [List.take_add, List.take_take, Nat.min_eq_left (by omega), List.drop_take, List.drop_drop, List.append_assoc, List.append_assoc, List.append_assoc, List.append_assoc, List.append_assoc]
    congr 2
    congr 1
    have e1 : l.drop (i.toNat * Enc.size β + Enc.size β) = (l.drop (i.toNat * Enc.size β + (off + m.length))).drop (Enc.size β - (off + m.length)) := by
      rw [List.drop_drop]; congr 1; omega
    rw [e1, List.take_append_drop]
    congr 1; omega
  rw [e]
  exact f3⟩
section
variable {P : Program} {Γ : List (Nat × Pr)} {n : Nat} {F0 : Nat → Bool} {js : List Item} {w0 w : World} {a : Act} {ops : Array Oper} {Q : Exit → Act → World → Prop} {ty : TypeId}
variable {t : TypeId} {ps : String} {af : Array Edge} {r : List Oper} {Δ : List (Nat × Pr)}
/-- 'x[:]' of an array in a box. -/
theorem sp_sliceAll {x : Operand} {T E : TypeId} {α : Type} [Enc α] {m b o : Nat} (hA : ArP P T E m α) (hm0 : Nat.blt 0 m = true) (hx : Od Γ x (Pr.is (.pointer (some ⟨b, o, none⟩)))) :
    StepP P (.slice T x none none none) ty Γ (Pr.is (.slice (some ⟨b, o, none⟩) m m)) :=
  step_pure fun c w a hc hm => by
    have hv : a.eval x = .pointer (some ⟨b, o, none⟩) := hx.get hm (by simp [Op.operands])
    have h0 : ¬ m = 0 := by have : 0 < m := by simpa [Nat.blt_eq] using hm0
                            omega
    refine ⟨_, ?_, rfl⟩
    simp [execOp, plain, hv, Instr.sliceAt, Instr.sureAddr, Instr.sliceBounds, run_underlying hA.desc, hA.elem.sizeOf w, h0, Addr.add_lit]
theorem s_copyA {d : Option Nat} {k b off m : Nat} {T T2 TB E : TypeId} {x y : Operand} {α β : Type} [Enc α] [Enc β] {xv xv' : α} {ys : List β} (hd : ∀ q, d = some q → q < n) (hT : SlP P T E β) (h : St n F0 js Γ w0 a w) (hk : js[k]? = some (Item.box TB b xv)) (hl : AllOd Γ Δ) (hC : AllC Δ)
    (hx : Od Γ x (Pr.is (.slice (some ⟨b, off, none⟩) m m))) (hy : Od Γ y (isV ys)) (hs : SetC off xv (ys.take m) xv')
    (K : ∀ a' w', St n F0 (js.set k (Item.box TB b xv')) (upd Δ d Pr.top) w0 a' w' → Mem.le (vw (pf F0 (Its js)) w) (vw (pf F0 (Its (js.set k (Item.box TB b xv')))) w') → wpList P ops Q r a' w') :
    wpList P ops Q (⟨d, .call { callee := .builtin .copy, args := #[x, y], argTypes := #[T, T2] }, t, ps, af, none⟩ :: r) a w := by
  have h' := h.weak hl
  have hxv : a.eval x = .slice (some ⟨b, off, none⟩) m m := hx.get (h.at_.met [x]) (by simp)
  have hyv : slice (vw (pf F0 (Its js)) w) (a.eval y) ys := hy.get (h.at_.met [y]) (by simp)
  obtain ⟨i, hi, hsz⟩ := hT.elem.info
  have hO : OwnB TB 0 (vw (pf F0 (Its js)) w) w b xv := h.it hk
  obtain ⟨cur, h1, h2⟩ := hO.out
  -- the cells that are read
  obtain ⟨ad, cc, news, ey, hnr, hnl, hnc⟩ : ∃ ad cc news, a.eval y = .slice ad ys.length cc ∧ RepL (vw (pf F0 (Its js)) w) news (ys.take m) ∧ news.length = min ys.length m * Enc.size β ∧
      (Builtin.firstCells i.size (min ys.length m) (.slice ad ys.length cc)).run P w = .ok news.toArray w := by
    rcases hyv with ⟨a0, cap, hv, _, rfl⟩ | ⟨b', off', cap, hv, _, _, hh⟩
    · refine ⟨a0, cap, [], hv, by simp [RepL], by simp, ?_⟩
      simp only [List.length_nil, Nat.zero_min]
      cases a0 with
      | none => simp [Builtin.firstCells]
      | some p => exact run_firstCells_some w i.size 0 p 0 cap [] (by simp) (fun j u e => by simp at e)
    · obtain ⟨cs, q1, q2⟩ := slice_cells (c := vw (pf F0 (Its js)) w) (b := b') (off := off') ys 0 (fun i hi => by simpa using hh i hi)
      have hcl := RepL.len q1
      have ht := repL_take q1 m
      have e : (ys.take m).length = min ys.length m := by rw [List.length_take]; omega
      have el : (cs.take (m * Enc.size β)).length = min ys.length m * Enc.size β := by rw [RepL.len ht, e]
      refine ⟨_, cap, cs.take (m * Enc.size β), hv, ht, el, ?_⟩
      refine run_firstCells_some w i.size (min ys.length m) _ ys.length cap _ (by rw [el, hsz]) (fun j u e => ?_)
      have e' : cs[j]? = some u := by
        rw [List.getElem?_take] at e
        split at e
        · exact e
        · cases e
      have := vw_cell (q2 j u e')
      rw [Addr.add_lit]; simpa using this
  obtain ⟨hfit, hrep⟩ := hs.out _ _ _ h2 hnr
  have hst := run_storeCells_at P b off TB news 0 cur w h1 (by simp at hfit; omega) hnr.cell
  simp only [Nat.add_zero] at hst
  have hmin : Nat.min ys.length m = min ys.length m := rfl
  have hr : (execOp a.eval ⟨d, .call { callee := .builtin .copy, args := #[x, y], argTypes := #[T, T2] }, t, ps, af, none⟩).run P w = .ok (.value (goInt (min ys.length m : Nat))) (w.setRow b (cur.toList.take off ++ news ++ cur.toList.drop (off + news.length)).toArray) := by
    simp [execOp, resolve, invoke, builtin, Builtin.copy_, hxv, ey, run_underlying hT.desc, sizeOf, typeInfo, hi, Builtin.lenOf, hmin, hnc, hst]
  unfold wpList
  simp only [Region.wanted, if_true]
  refine .inl (wp_of_ex ?_)
  unfold Ex
  rw [hr]
  generalize hcat : (cur.toList.take off ++ news ++ cur.toList.drop (off + news.length)).toArray = cat
  have hblk : ∀ q, q < w.heap.size → bx b q = false → (w.setRow b cat).heap[q]? = w.heap[q]? := fun q hq hb => setRow_other _ _ _ _ (fun e => by rw [bx_iff.2 e] at hb; cases hb)
  have hset := set_self (its_at hk)
  have hle := vw_turn (F0 := F0) (its_at hk) hblk (o' := bx b) (fun q hq => .inl hq)
  have hsize : (w.setRow b cat).heap.size = w.heap.size := by simp
  have hlow := h.low k _ b hk (bx_iff.2 rfl)
  have hB : Below w0.heap.size w0 (w.setRow b cat) := h.below.trans ⟨rfl, rfl, rfl, by rw [hsize]; exact Nat.le_refl _, fun q hq => setRow_other _ _ _ _ (fun e => by omega), Nat.le_refl _⟩
  have hA : At n (pf F0 ((Its js).set k (bx b))) Δ a (w.setRow b cat) := h'.at_.turn hC hle fun q hq => by
    rw [hsize]
    have e : (Its js).set k (bx b) = Its js := hset
    rw [e] at hq
    exact h.at_.own q hq
  refine K _ _ (h'.change hk (it' := Item.box TB b xv') (hA.step (Below.refl _ _) hd trivial) hB (by rw [hsize]; exact Nat.le_refl _) (fun q hq => .inl hq) ⟨⟨_, setRow_heap w b cur _ TB _ h1, Enc.mono hle (by rw [← hcat]; simpa using hrep)⟩, Nat.zero_le _⟩ hblk hle) ?_
  rw [its_set]; exact hle
end
end Go.Proofs.YtnnhmgcigoiceaaGreatDoor.Wh
