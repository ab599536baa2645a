/-
  What is proved: slices.Reverse on an own slice of numbers, out of the shelf's contract.
-/
import Derived.Test.YthogdhepjcomjaaGreatDoorGivenR
import Derived.Test.YthogdhepjcomjaaGreatDoorRevM
import Derived.Shelf.Slices.Reverse
import Derived.Laws.Rows
namespace Go.Proofs
open Go.Shelf
def Tryz.lays112_ren : Go.Shelf.Ren := ⟨fun | 112 => 46 | n => n, fun | 28 => 26 | 3 => 3 | 4 => 4 | 0 => 0 | n => n, fun | n => n⟩
theorem Tryz.lays112 : Go.Proofs.Lays.n112 Tryz.prog Tryz.lays112_ren := {
  mixed := by kernel_rfl
  f112 := Tryz.func46.trans (congrArg some (by kernel_rfl))
  t0 := Tryz.underlying0
  a0 := Tryz.isAgg0
  z0 := Tryz.sizeOf0
  v0 := Tryz.zeroValue0
  t3 := Tryz.underlying3
  a3 := Tryz.isAgg3
  z3 := Tryz.sizeOf3
  v3 := Tryz.zeroValue3
  t4 := Tryz.underlying4
  a4 := Tryz.isAgg4
  z4 := Tryz.sizeOf4
  v4 := Tryz.zeroValue4
  t28 := Tryz.underlying26
  a28 := Tryz.isAgg26
  z28 := Tryz.sizeOf26
  v28 := Tryz.zeroValue26 }
end Go.Proofs
namespace Go.Proofs.YthogdhepjcomjaaGreatDoor
open Go Go.RowKit Go.Proofs.YthogdhepjcomjaaGreatDoor.Wh

theorem rep_int (c : Mem) (vs : List Value) (x : Int) : Enc.rep c vs x ↔ vs = [.int .i64 x] := by
  constructor
  · intro h
    obtain ⟨a, rfl, ha⟩ := rep1_out h
    have ha : a = .int .i64 x := ha
    rw [ha]
  · rintro rfl
    rfl
/-- The row of an own slice of numbers. -/
theorem holds_int {E : TypeId} {c : Mem} {w : World} {g cap : Nat} {xs : List Int} (hO : Own E 0 c w (.slice (some ⟨g, 0, none⟩) xs.length cap) xs) : Go.Sort.Holds (Value.int .i64) w g 0 xs.toArray := by
  obtain ⟨cells, ⟨hlen, hr⟩, hl⟩ := hO.row
  rcases hr with ⟨h, _⟩ | ⟨g', cap', cur, hv, _, hheap, h1, _, h3, htake⟩
  · cases h
  · cases hv
    intro j hj
    have hj' : j < xs.length := by simpa using hj
    obtain ⟨vs, hv1, hv2⟩ := hl.get j hj'
    have hvs := (rep_int _ _ _).1 hv1
    subst hvs
    have hsz : Enc.size Int = 1 := rfl
    have := hv2 0 (.int .i64 xs[j]) rfl
    rw [hsz, Nat.mul_one, Nat.add_zero] at this
    rw [hsz, Nat.mul_one] at htake
    refine ⟨?_, ?_⟩
    · rw [cell_of_row w g _ cur E (0, 0) hheap, Nat.zero_add]
      rw [← htake, List.getElem?_take, if_pos hj'] at this
      rw [show cur[j]? = cur.toList[j]? from by simp, this]
      rw [getElem!_pos xs.toArray j (by simpa using hj')]
      simp only [List.getElem_toArray]
    · simp [World.frozen?, hheap]
/-- The own slice behind the call. -/
theorem put_post {E : TypeId} {F : Nat → Bool} {w w' : World} {g cap n : Nat} {xs zs : List Int} (hO : Own E 0 (vw F w) w (.slice (some ⟨g, 0, none⟩) xs.length cap) xs) (hl : zs.length = xs.length) (hw : w' = Go.Sort.putRow (Value.int .i64) (Go.Sort.ahead w n) g 0 zs.toArray) :
    (∀ B, B ≤ w.heap.size → (∀ b, ob (.slice (some ⟨g, 0, none⟩) xs.length cap) b = true → B ≤ b) → Wh.Below B w w') ∧ (∀ b, b < w.heap.size → ob (.slice (some ⟨g, 0, none⟩) xs.length cap) b = false → w'.heap[b]? = w.heap[b]?) ∧ Own E 0 (vw F w') w' (.slice (some ⟨g, 0, none⟩) xs.length cap) zs := by
  obtain ⟨cells, ⟨hlen, hr⟩, hrl⟩ := hO.row
  rcases hr with ⟨h, _⟩ | ⟨g', cap', cur, hv, _, hheap, h1, h2, h3, htake⟩
  · cases h
  · cases hv
    have hgl : g < w.heap.size := by
      rcases Nat.lt_or_ge g w.heap.size with h | h
      · exact h
      · rw [Array.getElem?_eq_none h] at hheap; cases hheap
    have hheap' : w'.heap = w.heap.modify g (Go.Sort.onCells (Go.Sort.putCells (Value.int .i64) 0 zs.toArray)) := by rw [hw]; rfl
    have hother : ∀ b, b ≠ g → w'.heap[b]? = w.heap[b]? := fun b hn => by
      rw [hheap', Array.getElem?_modify, if_neg (fun e => hn e.symm)]
    have hsize : w.heap.size ≤ w'.heap.size := by rw [hheap', Array.size_modify]; exact Nat.le_refl _
    have hs1 : Enc.size Int = 1 := rfl
    have h3' : cur.size = cap := by rw [h3, hs1, Nat.mul_one]
    refine ⟨fun B hB hb => ?_, fun b hb hob => hother b (fun e => by subst e; rw [ob_iff.2 rfl] at hob; cases hob), ?_⟩
    · have hBg : B ≤ g := hb g (ob_iff.2 rfl)
      refine ⟨by rw [hw]; rfl, by rw [hw]; rfl, by rw [hw]; rfl, hsize, fun k hk => hother k (by omega), Nat.le_refl _⟩
    · have hg' : w'.heap[g]? = some (.cells (Go.Sort.putCells (Value.int .i64) 0 zs.toArray cur) E (0, 0)) := by
        rw [hheap', Array.getElem?_modify, if_pos rfl, hheap]
        rfl
      have hps : (Go.Sort.putCells (Value.int .i64) 0 zs.toArray cur).size = cur.size := by simp [Go.Sort.putCells]
      have hlen2 : ((Go.Sort.putCells (Value.int .i64) 0 zs.toArray cur).toList.take (zs.length * Enc.size Int)).length = zs.length * Enc.size Int := by
        have hcl : (Go.Sort.putCells (Value.int .i64) 0 zs.toArray cur).toList.length = cap * Enc.size Int := (hps.trans h3)
        rw [List.length_take, hcl, hl]
        exact Nat.min_eq_left (Nat.mul_le_mul_right _ h1)
      refine ⟨⟨_, ⟨hlen2, .inr ⟨g, cap, _, by rw [hl], Nat.zero_le _, hg', by omega, h2, hps.trans h3, rfl⟩⟩, ?_⟩⟩
      have key : (Go.Sort.putCells (Value.int .i64) 0 zs.toArray cur).toList.take (zs.length * Enc.size Int) = zs.map (Value.int .i64) := by
        rw [hs1, Nat.mul_one]
        apply List.ext_getElem?
        intro q
        rw [List.getElem?_take, List.getElem?_map]
        by_cases hq : q < zs.length
        · have hcur : q < cur.size := by omega
          rw [if_pos hq, Array.getElem?_toList, List.getElem?_eq_getElem hq]
          simp only [Go.Sort.putCells, Array.getElem?_mapIdx, Array.getElem?_eq_getElem hcur, Option.map_some, Nat.zero_le, true_and, Nat.zero_add, List.size_toArray, if_pos hq, Nat.sub_zero]
          rw [getElem!_pos zs.toArray q (by simpa using hq)]
          simp only [List.getElem_toArray]
        · rw [if_neg hq, List.getElem?_eq_none (by omega)]; rfl
      rw [key]
      clear key hlen2 hg' hps hw hheap' hl
      induction zs with
      | nil => rfl
      | cons a l ih => exact ⟨[.int .i64 a], l.map (Value.int .i64), rfl, (rep_int _ _ _).2 rfl, ih⟩
theorem f46_ok {p0 r : List Int} (h : M.f46 p0 = some r) : CallM Tryz.prog 46 3 p0 r [] := by
  unfold M.f46 at h
  split at h
  · rename_i hlen
    cases h
    intro F w v vs hF hob hO hfit
    match vs, hfit with
    | [], _ =>
      obtain ⟨cells, hrow, hrl⟩ := hO.row
      rcases hrow.2 with ⟨rfl, hx0⟩ | ⟨g, cap, cur, rfl, _, hheap, hlc, hcm, _⟩
      · have hnil : p0 = [] := List.eq_nil_of_length_eq_zero hx0
        subst hnil
        have := Any.slices_Reverse_int_empty (P := Tryz.prog) (ρ := Tryz.lays112_ren) Tryz.lays112 none 0 w
        refine this.mono fun e w' ⟨he, hw⟩ => ?_
        subst hw
        exact ⟨he, fun B _ _ => Wh.Below.refl _ _, fun _ _ _ => rfl, own_nil⟩
      · have hs := Any.slices_Reverse_int (P := Tryz.prog) (ρ := Tryz.lays112_ren) Tryz.lays112 g 0 cap p0 w (holds_int hO) (by omega)
        refine hs.mono fun e w' ⟨he, n, hw⟩ => ?_
        have hpost := put_post (zs := p0.reverse) hO (by simp) hw
        exact ⟨he, hpost.1, hpost.2.1, hpost.2.2⟩
  · cases h
end Go.Proofs.YthogdhepjcomjaaGreatDoor
