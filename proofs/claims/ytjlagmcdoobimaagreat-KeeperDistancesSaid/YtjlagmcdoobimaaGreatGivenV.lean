/-
  What is proved: slices.Values and slices.Sorted of what it gave.
-/
import Derived.Test.YtjlagmcdoobimaaGreatGiven
import Derived.Test.YtjlagmcdoobimaaGreatVals
namespace Go.Proofs.YtjlagmcdoobimaaGreat
open Go Go.RowKit Go.Proofs.YtjlagmcdoobimaaGreat.Wh

theorem f12_ok {p0 : List Int} {r : SeqI} (h : M.f12 p0 = some r) : CallOK Tryz.prog 12 [isV p0] (isV r) := by
  unfold M.f12 at h
  cases h
  intro F w vs hF hfit
  match vs, hfit with
  | [v], ⟨hv, _⟩ =>
    have hv : slice (vw F w) v p0 := hv
    obtain ⟨a, cap, rfl, _⟩ := slice_len hv
    have hc : Calls Tryz.prog 12 #[.slice a p0.length cap] w fun e w' => e = .returned (.func (.func 39) #[] #[.pointer (some ⟨w.heap.size, 0, none⟩)]) ∧ w' = w.alloc (.cells #[.slice a p0.length cap] 25) := by
      go_enter Tryz.func12, Tryz.ntmps12
      go_wp2
      go_ret
      exact ⟨rfl, rfl⟩
    refine hc.mono fun e w' ⟨he, hw⟩ => ?_
    subst hw
    have hb : Wh.Below w.heap.size w (w.alloc (.cells #[.slice a p0.length cap] 25)) := (Wh.Below.refl _ _).alloc (Nat.le_refl _) _
    refine ⟨_, he, hb, ?_⟩
    refine ⟨w.heap.size, .slice a p0.length cap, rfl, ?_, slice_mono (vw_below hb) hv⟩
    show vw F _ _ = _
    unfold vw
    rw [if_neg (fun e => by have := hF _ e; simp at this)]
    exact cell_of_row _ _ _ _ _ (0, 0) (heap_alloc_new w _)
theorem f11_ok {p0 : SeqI} {r : List Int} (h : M.f11 p0 = some r) : CallOK Tryz.prog 11 [isV p0] (isV r) := by
  unfold M.f11 at h
  split at h
  · rename_i hlen
    cases h
    intro F w vs hF hfit
    match vs, hfit with
    | [v], ⟨hv, _⟩ =>
      obtain ⟨l⟩ := p0
      have hlen : l.length ≤ 1000 := hlen
      obtain ⟨b, u, rfl, hu, hs⟩ := hv
      have hu := vw_cell hu
      have hm : l.length ≤ maxLen := by unfold maxLen; omega
      have hseq : Gives Tryz.prog 3 39 #[.pointer (some ⟨b, 0, none⟩)] l w := by
        refine Tryz.vals_gives (hv := u) (by omega) (by omega) hu (cell_lt hu) ?_
        rcases hs with ⟨a, cap, rfl, _, e⟩ | ⟨g, off, cap, rfl, h1, h2, h3⟩
        · exact .inl ⟨a, cap, by simp, e⟩
        · by_cases h0 : l.length = 0
          · exact .inl ⟨_, cap, by rw [h0], List.eq_nil_of_length_eq_zero h0⟩
          · have hc : ∀ j, j < l.length → w.cell? ⟨g, off + j, none⟩ = some (.int .i64 (l[j]?.getD 0)) := fun j hj => by
              obtain ⟨vs, hr, hq⟩ := h3 j hj
              obtain ⟨z, rfl, hz⟩ := rep1_out hr
              have hz : z = .int .i64 l[j] := hz
              subst hz
              have := hq 0 _ (List.getElem?_eq_getElem (by simp))
              have e1 : off + j * Enc.size Int + 0 = off + j := by show off + j * 1 + 0 = off + j; omega
              rw [e1] at this
              rw [List.getElem?_eq_getElem hj]
              exact vw_cell this
            exact .inr ⟨g, off, cap, rfl, cell_lt (hc 0 (by omega)), hc⟩
      have hS := sorted_gives (ρ := Tryz.srt_ren) (n := 6) Tryz.srt (by omega) ⟨fun blk off cap ss W hH hblk hsz => callsIn_wide.2 (AnyM.slices_Sort_int Tryz.srtI blk off cap ss W hH hblk hsz), fun p cap W => callsIn_wide.2 (AnyM.slices_Sort_int_none Tryz.srtI p cap W)⟩
        (enters_of Tryz.func38 (by kernel_rfl) rfl) (enters_of Tryz.func39 (by kernel_rfl) rfl) hm (by omega) hseq
      refine (callsIn_wide.1 hS).mono fun e w' ⟨v, he, hrow, hb⟩ => ?_
      have hbw : Wh.Below w.heap.size w w' := ⟨hb.os, hb.tape, hb.output, hb.size, hb.block, Nat.le_refl _⟩
      refine ⟨v, he, hbw, ?_⟩
      show slice (vw F w') v (l.mergeSort fun x y => decide (x ≤ y))
      obtain ⟨hl, hr⟩ := hrow
      have hll : (l.mergeSort fun x y => decide (x ≤ y)).length = l.length := List.length_mergeSort _
      rcases hr with ⟨rfl, h0⟩ | ⟨g, cap, cur, rfl, hge, hq, r1, r2, r3, r4⟩
      · exact .inl ⟨none, 0, rfl, Nat.zero_le _, List.eq_nil_of_length_eq_zero (by omega)⟩
      · refine .inr ⟨g, 0, cap, by rw [hll], by omega, r2, fun i hi => ⟨[.int .i64 ((l.mergeSort fun x y => decide (x ≤ y))[i])], rfl, fun j v e => ?_⟩⟩
        have hj : j = 0 := by
          have := (List.getElem?_eq_some_iff.1 e).1
          simp at this; omega
        subst hj
        cases e
        show vw F w' _ = _
        unfold vw
        rw [if_neg (fun e => by have : g < w.heap.size := hF _ e; omega)]
        rw [cell_of_row w' g _ cur _ (0, 0) hq]
        have e2 := congrArg (fun z => z[i]?) r4
        simp only [List.getElem?_take, List.getElem?_map] at e2
        rw [if_pos (by rw [hll] at hi; omega), List.getElem?_eq_getElem hi] at e2
        have e3 : 0 + i * Enc.size Int + 0 = i := by show 0 + i * 1 + 0 = i; omega
        rw [e3, ← Array.getElem?_toList, e2]
        rfl
  · cases h
end Go.Proofs.YtjlagmcdoobimaaGreat
