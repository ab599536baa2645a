/-
  What is proved: fields of elements of own slices are stored to; a list in a variable is a header again.
-/
import Derived.Test.YthogdhepjcomjaaGreatDoorBaseQ
namespace Go.Proofs.YthogdhepjcomjaaGreatDoor.Wh
open Go Go.RowKit

/-- The place in element j of an own slice, so many cells on. -/
def isEF (α : Type) [Enc α] (v : Value) (j off : Nat) : Pr := ⟨fun _ u => ∃ b n cap, v = .slice (some ⟨b, 0, none⟩) n cap ∧ u = .pointer (some ⟨b, j * Enc.size α + off, none⟩), fun _ h => h⟩
section
variable {P : Program} {Γ : List (Nat × Pr)}
/-- 'x[j].f = z' on an own slice. -/
theorem l_storeEF {ops : Array Oper} {n k p off : Nat} {j : Int} {E FT : TypeId} {y : Operand} {α β : Type} [Enc α] [Enc β] {z : β} {x x' : α} {xs xs' : List α} {v : Value} {t : TypeId} {ps : String} {af : Array Edge} {r : List Oper} {F0 : Nat → Bool} {os : List (Nat → Bool)} {a : Act} {w w0 : World} {Q : Exit → Act → World → Prop}
    (hT : TyP P FT β) (hk : os[k]? = some (ob v)) (hA : At n (pf F0 os) Γ a w) (hB : Below w0.heap.size w0 w) (hO : Own E w0.heap.size (vw (pf F0 os) w) w v xs) (hp : Od Γ (.tmp p) (isEF α v j.toNat off)) (hy : Od Γ y (isV z)) (hx : idx xs j = some x) (hs : SetF off x z x') (hset : set1 xs j x' = some xs')
    {Δ : List (Nat × Pr)} (hl : AllOd Γ Δ) (hC : AllC Δ)
    (K : ∀ w', Below w0.heap.size w0 w' → At n (pf F0 os) Δ a w' → Own E w0.heap.size (vw (pf F0 os) w') w' v xs' → (∀ q, q < w.heap.size → ob v q = false → w'.heap[q]? = w.heap[q]?) → w.heap.size ≤ w'.heap.size → Mem.le (vw (pf F0 os) w) (vw (pf F0 os) w') → wpList P ops Q r a w') :
    wpList P ops Q (⟨none, .store FT (.tmp p) y, t, ps, af, none⟩ :: r) a w := by
  have hm : ∀ xs, Met Γ xs (v2 (pf F0 os) w) a := hA.met
  have hyv : val (vw (pf F0 os) w) (a.eval y) z := hy.get (hm [y]) (by simp)
  obtain ⟨b, n', cap', rfl, hpv⟩ := hp.get (hm [.tmp p]) (by simp)
  have hpv : a.eval (.tmp p) = .pointer (some ⟨b, j.toNat * Enc.size α + off, none⟩) := hpv
  obtain ⟨hj0, hjlt, rfl⟩ := set1_some hset
  obtain ⟨cells, h1, h2⟩ := hO.row
  rcases h1.2 with ⟨hn, _⟩ | ⟨b', cap, cur, hub, hBb, hheap, hlc, hcm, hcs, htake⟩
  · cases hn
  cases hub
  have hxj : xs[j.toNat] = x := by
    unfold idx at hx
    rw [if_neg (by omega), List.getElem?_eq_getElem hjlt] at hx
    exact Option.some.inj hx
  have hcells := val_cells hyv
  have hlen := Enc.len hcells
  have hone := Enc.cell hcells
  obtain ⟨inf, hinf, hsz⟩ := hT.info
  have hpos : (j.toNat + 1) * Enc.size α ≤ cap' * Enc.size α := Nat.mul_le_mul_right _ (by omega)
  rw [Nat.add_mul, Nat.one_mul] at hpos
  have hposx : (j.toNat + 1) * Enc.size α ≤ xs.length * Enc.size α := Nat.mul_le_mul_right _ (by omega)
  rw [Nat.add_mul, Nat.one_mul] at hposx
  -- the element as it stands
  obtain ⟨vs, hv1, hv2⟩ := h2.get j.toNat hjlt
  rw [hxj] at hv1
  have hvl := Enc.len hv1
  obtain ⟨hfit0, hrep⟩ := hs.out _ _ _ hv1 hcells
  have hcl : cells.length = xs.length * Enc.size α := RepL.len h2
  have hcurl : cur.toList.length = cap' * Enc.size α := by simpa using hcs
  have hslice : (cur.toList.drop (j.toNat * Enc.size α)).take (Enc.size α) = vs := by
    apply List.ext_getElem?
    intro q
    rw [List.getElem?_take, List.getElem?_drop]
    by_cases hq : q < Enc.size α
    · rw [if_pos hq]
      have e1 := hv2 q vs[q] (List.getElem?_eq_getElem (by omega))
      rw [← htake, List.getElem?_take, if_pos (by omega)] at e1
      rw [e1, List.getElem?_eq_getElem (by omega)]
    · rw [if_neg hq, List.getElem?_eq_none (by omega)]
  have hfit : j.toNat * Enc.size α + off + 0 + (a.eval y).cells.toList.length ≤ cur.size := by rw [hcs]; omega
  have hst := run_storeCells_at P b (j.toNat * Enc.size α + off) E (a.eval y).cells.toList 0 cur w hheap hfit hone
  have hcs2 : (a.eval y).cells.size = inf.size := by rw [hsz, ← hlen]; simp
  have hr : (execOp a.eval ⟨none, .store FT (.tmp p) y, t, ps, af, none⟩).run P w = .ok .skip (w.setRow b (cur.toList.take (j.toNat * Enc.size α + off) ++ (a.eval y).cells.toList ++ cur.toList.drop (j.toNat * Enc.size α + off + (a.eval y).cells.toList.length)).toArray) := by
    simp only [Nat.add_zero] at hst
    simp only [execOp, hpv, Instr.storeAt, Instr.sureAddr, storeVar, Go.sizeOf, typeInfo, Sem.run_bind, run_program, Result.andThen_ok, hinf, Sem.run_pure]
    simp [hcs2, hst]
  unfold wpList
  simp only [Region.wanted, if_true]
  refine .inl (wp_of_ex ?_)
  unfold Ex
  rw [hr]
  generalize hm2 : (a.eval y).cells.toList = m at *
  generalize hnew : cur.toList.take (j.toNat * Enc.size α + off) ++ m ++ cur.toList.drop (j.toNat * Enc.size α + off + m.length) = new
  have hblk : ∀ q, q ≠ b → (w.setRow b new.toArray).heap[q]? = w.heap[q]? := fun q hq => setRow_other _ _ _ _ hq
  have hblk' : ∀ q, q < w.heap.size → ob (.slice (some ⟨b, 0, none⟩) xs.length cap') q = false → (w.setRow b new.toArray).heap[q]? = w.heap[q]? := fun q _ hq => hblk q (fun e => by subst e; simp [ob, Value.ownBlock] at hq)
  have hle : Mem.le (vw (pf F0 os) w) (vw (pf F0 os) (w.setRow b new.toArray)) := by
    have := vw_turn (F0 := F0) hk hblk' (o' := ob (.slice (some ⟨b, 0, none⟩) xs.length cap')) (fun q hq => .inl hq)
    rwa [set_self hk] at this
  have hsize : (w.setRow b new.toArray).heap.size = w.heap.size := by simp
  refine K _ (hB.trans ⟨rfl, rfl, rfl, by rw [hsize]; exact Nat.le_refl _, fun q hq => hblk q (fun e => by omega), Nat.le_refl _⟩) ((hA.weak hl).turn hC hle fun q hq => by rw [hsize]; exact hA.own q hq) ?_ hblk' (by rw [hsize]; exact Nat.le_refl _) hle
  have hrl : (vs.take off ++ m ++ vs.drop (off + m.length)).length = Enc.size α := by
    simp only [List.length_append, List.length_take, List.length_drop]
    omega
  refine own_set_row hO hle (Enc.mono hle hrep) hjlt (fun cur' hc' => ?_)
  rw [hheap] at hc'
  cases hc'
  rw [← hnew, hrl, ← hslice]
  apply List.ext_getElem?
  intro q
  have el1 : ((cur.toList.drop (j.toNat * Enc.size α)).take (Enc.size α)).length = Enc.size α := by rw [hslice]; exact hvl
  simp only [List.getElem?_append, List.getElem?_take, List.getElem?_drop, List.length_append, List.length_take, List.length_drop, el1]
  have d1 : min (j.toNat * Enc.size α + off) cur.toList.length = j.toNat * Enc.size α + off := Nat.min_eq_left (by omega)
  have d2 : min (j.toNat * Enc.size α) cur.toList.length = j.toNat * Enc.size α := Nat.min_eq_left (by omega)
  have d4 : min off (Enc.size α) = off := Nat.min_eq_left (by omega)
  rw [d1, d2, d4]
  generalize cur.toList = cl at *
  generalize j.toNat * Enc.size α = A at *
  generalize Enc.size α = S at *
  repeat' split
  all_goals first
    | rfl
    | (exfalso; omega)
    | (congr 1; omega)
end
section
variable {P : Program} {Γ Δ : List (Nat × Pr)} {n : Nat} {F0 : Nat → Bool} {js : List Item} {w0 w : World} {a : Act} {ops : Array Oper} {Q : Exit → Act → World → Prop}
variable {t : TypeId} {ps : String} {af : Array Edge} {r : List Oper}
theorem s_storeEF {k p off : Nat} {j : Int} {E FT : TypeId} {y : Operand} {α β : Type} [Enc α] [Enc β] {z : β} {x x' : α} {xs xs' : List α} {v : Value} (hT : TyP P FT β) (h : St n F0 js Γ w0 a w) (hk : js[k]? = some (Item.sl E v xs)) (hl : AllOd Γ Δ) (hC : AllC Δ)
    (hp : Od Γ (.tmp p) (isEF α v j.toNat off)) (hy : Od Γ y (isV z)) (hx : idx xs j = some x) (hs : SetF off x z x') (hset : set1 xs j x' = some xs')
    (K : ∀ w', St n F0 (js.set k (Item.sl E v xs')) Δ w0 a w' → Mem.le (vw (pf F0 (Its js)) w) (vw (pf F0 (Its (js.set k (Item.sl E v xs')))) w') → wpList P ops Q r a w') :
    wpList P ops Q (⟨none, .store FT (.tmp p) y, t, ps, af, none⟩ :: r) a w := by
  have hq := set_self (its_at hk)
  refine l_storeEF hT (its_at hk) h.at_ h.below (own_up (h.it hk) (fun b hb => h.low k _ b hk hb)) hp hy hx hs hset hl hC fun w' hB hA hO hg hsz hle => ?_
  refine K w' (h.change (it' := Item.sl E v xs') hk (hq.symm ▸ hA) hB hsz (fun q hq => .inl hq) (hq.symm ▸ own_dn hO) hg (hq.symm ▸ hle)) ?_
  rw [its_set]
  exact hq.symm ▸ hle
theorem sp_fieldAddrEF {x : Operand} {ty T : TypeId} {k o j : Nat} {α : Type} [Enc α] {v : Value} (hf : FieldO P T k o) (hx : Od Γ x (isEP α v j)) : StepP P (.fieldAddr T x k) ty Γ (isEF α v j o) :=
  step_pure fun c w a hc hm => by
    obtain ⟨b, n, cap, h0, hv⟩ := hx.get hm (by simp [Op.operands])
    have hv : a.eval x = .pointer (some ⟨b, j * Enc.size α, none⟩) := hv
    obtain ⟨fs, fd, i, h1, h2, h3, h4, h5⟩ := hf.out
    refine ⟨.pointer (some ⟨b, j * Enc.size α + o, none⟩), ?_, ⟨b, n, cap, h0, rfl⟩⟩
    simp [execOp, plain, hv, Instr.fieldAt, run_underlying h1, h2, Instr.sureAddr, fieldPlace, Go.sizeOf, typeInfo, h3, h4, h5, Addr.add_lit]
/-- A list that is a header again. -/
structure ToR {α α' : Type} [Enc α] [Enc α'] (x : α) (x' : Value → α') : Prop where
  out : ∀ (c : Mem) (cs : List Value), Enc.rep c cs x → ∃ v, Enc.rep c cs (x' v)
theorem ToR.self {β : Type} [Enc β] {l : List β} : ToR l (fun v => Raw.mk v) := ⟨fun c cs h => by
  obtain ⟨u, rfl, h3⟩ := rep1_out h
  refine ⟨u, ⟨rfl, ?_⟩⟩
  obtain ⟨a, cap, rfl, _⟩ := slice_len h3
  rfl⟩
theorem ToR.fst {α α' γ : Type} [Enc α] [Enc α'] [Enc γ] {x : α} {x' : Value → α'} {b : γ} (h : ToR x x') : ToR (x, b) (fun v => (x' v, b)) := ⟨fun c cs h2 => by
  obtain ⟨l1, l2, rfl, k1, k2⟩ := h2
  obtain ⟨v, hv⟩ := h.out c l1 k1
  exact ⟨v, l1, l2, rfl, hv, k2⟩⟩
theorem ToR.snd {α α' γ : Type} [Enc α] [Enc α'] [Enc γ] {x : α} {x' : Value → α'} {b : γ} (h : ToR x x') : ToR (b, x) (fun v => (b, x' v)) := ⟨fun c cs h2 => by
  obtain ⟨l1, l2, rfl, k1, k2⟩ := h2
  obtain ⟨v, hv⟩ := h.out c l2 k2
  exact ⟨v, l1, l2, rfl, k1, hv⟩⟩
/-- A list in a variable is a header again. -/
theorem st_toraw {α α' : Type} [Enc α] [Enc α'] {T : TypeId} {b : Nat} {x : α} {x' : Value → α'} (kb : Nat) (h : St n F0 js Γ w0 a w) (hb : js[kb]? = some (Item.box T b x)) (hu : ToR x x') : ∃ v, St n F0 (js.set kb (Item.box T b (x' v))) Γ w0 a w := by
  have hB : OwnB T 0 (vw (pf F0 (Its js)) w) w b x := h.it hb
  obtain ⟨cur, h1, h2⟩ := hB.out
  obtain ⟨v, hv⟩ := hu.out _ _ h2
  exact ⟨v, h.swap hb rfl fun _ => ⟨⟨cur, h1, hv⟩, Nat.zero_le _⟩⟩
end
end Go.Proofs.YthogdhepjcomjaaGreatDoor.Wh
