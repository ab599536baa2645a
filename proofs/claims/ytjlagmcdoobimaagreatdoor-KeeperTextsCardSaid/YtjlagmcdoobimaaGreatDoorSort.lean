/-
  What is proved: slices.SortFunc on an own slice, out of the shelf's contract.
-/
import Derived.Test.YtjlagmcdoobimaaGreatDoorBaseD
import Derived.Test.YtjlagmcdoobimaaGreatDoorIsort
import Derived.Shelf.SlSortCmp.NoneTotal
namespace Go.Proofs.YtjlagmcdoobimaaGreatDoor.Wh
open Go Go.RowKit Go.Sort

theorem repL_open {α : Type} [Enc α] {c : Mem} : ∀ {l : List α} {cs : List Value}, cs.length = l.length * Enc.size α → (∀ i (hi : i < l.length), Enc.rep c ((cs.drop (i * Enc.size α)).take (Enc.size α)) l[i]) → RepL c cs l
  | [], cs, hc, _ => List.eq_nil_of_length_eq_zero (by simpa using hc)
  | a :: r, cs, hc, h => by
    have h0 : Enc.rep c ((cs.drop (0 * Enc.size α)).take (Enc.size α)) a := h 0 (by simp)
    rw [Nat.zero_mul, List.drop_zero] at h0
    refine ⟨cs.take (Enc.size α), cs.drop (Enc.size α), (List.take_append_drop _ _).symm, h0, repL_open (by rw [List.length_drop, hc, List.length_cons, Nat.succ_mul]; omega) fun i hi => ?_⟩
    have := h (i + 1) (by simpa using hi)
    rw [List.drop_drop, show Enc.size α + i * Enc.size α = (i + 1) * Enc.size α from by rw [Nat.succ_mul]; omega]
    simpa using this
theorem sort_heap {α : Type} [Inhabited α] (enc : α → List Value) (k : Nat) (w : World) (m : Nat) (dk : Array α) (os : Array Obj) {g b : Nat} (hb : b < w.heap.size) :
    (sortWorldK enc k w g 0 m dk os).heap[b]? = (w.heap.modify g (onCells (putCells id 0 (flatK enc k dk))))[b]? := by
  show ((w.heap.modify g (onCells (putCells id 0 (flatK enc k dk)))) ++ os)[b]? = _
  rw [Array.getElem?_append_left (by simpa using hb)]
section
variable {P : Program} {α : Type} [Enc α] [Inhabited α] {enc : α → List Value} (hrep : ∀ (c : Mem) (vs : List Value) (x : α), Enc.rep c vs x ↔ vs = enc x)
include hrep
omit [Inhabited α] in
theorem enc_len (x : α) : (enc x).length = Enc.size α := Enc.len ((hrep (fun _ => none) (enc x) x).2 rfl)
/-- The row of an own slice. -/
theorem holds_own {E : TypeId} {c : Mem} {w : World} {g cap : Nat} {xs : List α} (hO : Own E 0 c w (.slice (some ⟨g, 0, none⟩) xs.length cap) xs) : HoldsK enc (Enc.size α) w g 0 xs.toArray := by
  obtain ⟨cells, ⟨hlen, hr⟩, hl⟩ := hO.row
  rcases hr with ⟨h, _⟩ | ⟨g', cap', cur, hv, _, hheap, h1, _, h3, htake⟩
  · cases h
  · cases hv
    intro j hj
    rw [size_flatK] at hj
    have hj' : j < xs.length * Enc.size α := by simpa using hj
    have hpos : 0 < Enc.size α := Nat.pos_of_ne_zero fun h => by rw [h, Nat.mul_zero] at hj'; omega
    have hd : j / Enc.size α < xs.length := Nat.div_lt_of_lt_mul (by rwa [Nat.mul_comm])
    have hm : j % Enc.size α < Enc.size α := Nat.mod_lt _ hpos
    obtain ⟨vs, hv1, hv2⟩ := hl.get (j / Enc.size α) hd
    have hvs := (hrep _ _ _).1 hv1
    subst hvs
    have hlen2 := enc_len hrep xs[j / Enc.size α]
    have := hv2 (j % Enc.size α) (enc xs[j / Enc.size α])[j % Enc.size α] (List.getElem?_eq_getElem (by omega))
    rw [Nat.mul_comm, Nat.div_add_mod] at this
    refine ⟨?_, ?_⟩
    · rw [cell_of_row w g _ cur E (0, 0) hheap, Nat.zero_add, get_flatK _ _ _ _ (by simpa using hj')]
      rw [← htake, List.getElem?_take, if_pos hj'] at this
      rw [show cur[j]? = cur.toList[j]? from by simp, this]
      simp only [id, Option.some.injEq]
      rw [getElem!_pos xs.toArray _ (by simpa using hd)]
      simp only [List.getElem_toArray]
      rw [getElem!_pos _ _ (by omega)]
    · simp [World.frozen?, hheap]
/-- The own slice behind the sort. -/
theorem sort_post {E : TypeId} {F : Nat → Bool} {w w' : World} {g cap m : Nat} {os : Array Obj} {xs zs : List α} (hO : Own E 0 (vw F w) w (.slice (some ⟨g, 0, none⟩) xs.length cap) xs) (hl : zs.length = xs.length) (hw : w' = sortWorldK enc (Enc.size α) w g 0 m zs.toArray os) :
    (∀ B, B ≤ w.heap.size → (∀ b, ob (.slice (some ⟨g, 0, none⟩) xs.length cap) b = true → B ≤ b) → Below B w w') ∧ (∀ b, b < w.heap.size → ob (.slice (some ⟨g, 0, none⟩) xs.length cap) b = false → w'.heap[b]? = w.heap[b]?) ∧ Own E 0 (vw F w') w' (.slice (some ⟨g, 0, none⟩) xs.length cap) zs := by
  have hH := holds_own hrep hO
  obtain ⟨cells, ⟨hlen, hr⟩, hrl⟩ := hO.row
  rcases hr with ⟨h, _⟩ | ⟨g', cap', cur, hv, _, hheap, h1, h2, h3, htake⟩
  · cases h
  · cases hv
    have hgl : g < w.heap.size := by
      rcases Nat.lt_or_ge g w.heap.size with h | h
      · exact h
      · rw [Array.getElem?_eq_none h] at hheap; cases hheap
    have hheap' : ∀ b, b < w.heap.size → w'.heap[b]? = (w.heap.modify g (onCells (putCells id 0 (flatK enc (Enc.size α) zs.toArray))))[b]? := by
      intro b hb
      rw [hw]
      exact sort_heap _ _ _ _ _ _ hb
    have hother : ∀ b, b < w.heap.size → b ≠ g → w'.heap[b]? = w.heap[b]? := fun b hb hn => by
      rw [hheap' b hb, Array.getElem?_modify, if_neg (fun e => hn e.symm)]
    have hsize : w.heap.size ≤ w'.heap.size := by rw [hw]; exact size_sortWorldK_c _ _ _ _ _ _ _ _
    refine ⟨fun B hB hb => ?_, fun b hb hob => hother b hb (fun e => by subst e; rw [ob_iff.2 rfl] at hob; cases hob), ?_⟩
    · have hBg : B ≤ g := hb g (ob_iff.2 rfl)
      refine ⟨by rw [hw]; rfl, by rw [hw]; rfl, by rw [hw]; rfl, hsize, fun k hk => hother k (by omega) (by omega), by first | exact Nat.le_refl 0 | (rw [hw]; exact Nat.le_add_right _ _)⟩
    · have hg' : w'.heap[g]? = some (.cells (putCells id 0 (flatK enc (Enc.size α) zs.toArray) cur) E (0, 0)) := by
        rw [hheap' g hgl, Array.getElem?_modify, if_pos rfl, hheap]
        rfl
      have hps : (putCells id 0 (flatK enc (Enc.size α) zs.toArray) cur).size = cur.size := by simp [putCells]
      have hlen2 : ((putCells id 0 (flatK enc (Enc.size α) zs.toArray) cur).toList.take (zs.length * Enc.size α)).length = zs.length * Enc.size α := by
        have hcl : (putCells id 0 (flatK enc (Enc.size α) zs.toArray) cur).toList.length = cap * Enc.size α := (hps.trans h3)
        rw [List.length_take, hcl, hl]
        exact Nat.min_eq_left (Nat.mul_le_mul_right _ h1)
      refine ⟨⟨_, ⟨hlen2, .inr ⟨g, cap, _, by rw [hl], Nat.zero_le _, hg', by omega, h2, hps.trans h3, rfl⟩⟩, ?_⟩⟩
      refine repL_open hlen2 fun i hi => ?_
      rw [hrep]
      have hzi := enc_len hrep zs[i]
      apply List.ext_getElem?
      intro q
      rw [List.getElem?_take, List.getElem?_drop]
      by_cases hq : q < Enc.size α
      · rw [if_pos hq]
        have hiq : i * Enc.size α + q < zs.length * Enc.size α := by
          have := Nat.mul_le_mul_right (Enc.size α) (show i + 1 ≤ zs.length from hi)
          rw [Nat.add_mul, Nat.one_mul] at this; omega
        have hcur : i * Enc.size α + q < cur.size := by
          have := Nat.mul_le_mul_right (Enc.size α) h1
          rw [h3]; rw [hl] at hiq; omega
        rw [List.getElem?_take, if_pos hiq, Array.getElem?_toList]
        have e1 : (i * Enc.size α + q) / Enc.size α = i := by
          rw [Nat.mul_comm, Nat.mul_add_div (by omega), Nat.div_eq_of_lt hq]; omega
        have e2 : (i * Enc.size α + q) % Enc.size α = q := by
          rw [Nat.mul_comm, Nat.mul_add_mod]; exact Nat.mod_eq_of_lt hq
        simp only [putCells, Array.getElem?_mapIdx, Array.getElem?_eq_getElem hcur, Option.map_some, Nat.zero_le, true_and, Nat.zero_add, size_flatK, List.size_toArray, if_pos hiq, id, Nat.sub_zero]
        rw [get_flatK _ _ _ _ (by simpa using hiq), e1, e2, getElem!_pos zs.toArray _ (by simpa using hi)]
        simp only [List.getElem_toArray]
        rw [getElem!_pos _ _ (by omega), List.getElem?_eq_getElem (by omega)]
      · rw [if_neg hq, List.getElem?_eq_none (by omega)]
end
end Go.Proofs.YtjlagmcdoobimaaGreatDoor.Wh
