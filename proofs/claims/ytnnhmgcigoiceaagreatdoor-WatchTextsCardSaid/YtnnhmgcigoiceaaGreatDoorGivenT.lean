/-
  What is proved: strconv.Itoa, strconv.Atoi, strings.Join and strings.Split at blanks, out of the shelf's contracts.
-/
import Derived.Test.YtnnhmgcigoiceaaGreatDoorGivenR
import Derived.Test.YtnnhmgcigoiceaaGreatDoorShelf
import Derived.Test.YtnnhmgcigoiceaaGreatDoorBaseS
import Derived.Lib.IndexBytes
import Derived.Lib.SplitLaws
set_option linter.unusedVariables false
set_option maxRecDepth 100000
namespace Go.Proofs
open Go.Shelf Go.Lib
/-- strings.Split at one byte. -/
theorem Tryz.split_one (s : ByteArray) (c : UInt8) (w : World) (hs : s.size ≤ 1000000) :
    Calls Tryz.prog 30 #[.string s, .string ⟨#[c]⟩] w fun e w' =>
      e = .returned (.slice (some ⟨w.heap.size, 0, none⟩) (Lib.countB s ⟨#[c]⟩ + 1) (Lib.countB s ⟨#[c]⟩ + 1)) ∧ w' = w.alloc (.cells ((Lib.splitB ⟨#[c]⟩ 0 (Lib.countB s ⟨#[c]⟩) s).map Value.string).toArray 9) := by
  have hle := Lib.countB_le ⟨#[c]⟩ (Nat.le_refl 1) s.size s (Nat.le_refl _)
  have hlen := Lib.splitB_all ⟨#[c]⟩ (Nat.le_refl 1) 0 _ s rfl
  have h := Any.strings_genSplit_core Tryz.lays221 (by kernel_rfl) s ⟨#[c]⟩ 0 (-1) (Lib.countB s ⟨#[c]⟩ + 1) w (by omega) (Nat.le_refl 1) (Nat.zero_le _)
    (fun x cs _ => (Tryz.strings_Index_one x c _).mono fun e w' ⟨he, hw⟩ => ⟨by rw [he]; exact congrArg (fun n : Int => Ending.returned (.int .i64 n)) (Lib.index_one _ _).symm, hw⟩)
    ((Tryz.strings_Count_one s c w).mono fun e w' ⟨he, hw⟩ => ⟨by rw [he]; show _ = Ending.returned (Value.int .i64 ((Lib.count s.data.toList [c] : Nat) : Int)); rw [Lib.count_one]; rfl, hw⟩)
    (by decide) (by decide) (by rw [if_pos (by decide)]; omega)
  rw [Nat.add_sub_cancel, hlen, show Lib.cellsOf (Lib.splitB ⟨#[c]⟩ 0 (Lib.countB s ⟨#[c]⟩) s) (Lib.countB s ⟨#[c]⟩ + 1) = ((Lib.splitB ⟨#[c]⟩ 0 (Lib.countB s ⟨#[c]⟩) s).map Value.string).toArray from by rw [← hlen]; exact Lib.cellsOf_full _] at h
  go_enter Tryz.func30, Tryz.ntmps30
  go_wp2_with (go_at_call 74; refine h.mono ?_; rintro e w' ⟨rfl, hw⟩; rw [hw])
  go_ret
  exact ⟨rfl, rfl⟩
end Go.Proofs
namespace Go.Proofs.YtnnhmgcigoiceaaGreatDoor
open Go Go.RowKit Go.Proofs.YtnnhmgcigoiceaaGreatDoor.Wh

theorem below_of_grow {w w' : World} {k : Nat} {os : Array Obj} (h : w' = Sort.grow (w.drewN k) os) : Wh.Below w.heap.size w w' := by
  subst h
  exact ⟨rfl, rfl, rfl, by show w.heap.size ≤ (w.heap ++ os).size; rw [Array.size_append]; omega, fun j hj => by show (w.heap ++ os)[j]? = _; rw [Array.getElem?_append_left hj], Nat.le_refl _⟩
theorem below_of_kit {B : Nat} {w w' : World} (h : Go.RowKit.Below B w w') : Wh.Below B w w' := ⟨h.os, h.tape, h.output, h.size, h.block, Nat.le_refl _⟩
theorem f27_ok {p0 : Int} {r : ByteArray} (h : M.f27 p0 = some r) : CallT Tryz.prog 27 [isV p0] (isV r) := by
  unfold M.f27 at h
  split at h
  · rename_i hb
    cases h
    intro F w vs hT hF hfit
    match vs, hfit with
    | [v], ⟨hv, _⟩ =>
      have hv : v = .int .i64 p0 := hv
      subst hv
      exact (Tryz.strconv_Itoa p0 hb.1 hb.2 w hT.1).mono fun e w' ⟨he, k, os, hw⟩ => ⟨_, he, below_of_grow hw, rfl⟩
  · cases h
theorem f31_ok {p0 : ByteArray} {r : Int × ErrV} (h : M.f31 p0 = some r) : CallT Tryz.prog 31 [isV p0] (isTup [isV r.1, isV r.2]) := by
  unfold M.f31 at h
  split at h
  · rename_i hb
    cases h
    intro F w vs hT hF hfit
    match vs, hfit with
    | [v], ⟨hv, _⟩ =>
      have hv : v = .string p0 := hv
      subst hv
      obtain ⟨_, ⟨t1, q1, hS⟩, ⟨t2, q2, hR⟩⟩ := hT
      cases hq : Lib.atoiAll p0.data.toList
      · refine (Tryz.strconv_Atoi_ok p0 (by omega) _ hq w).mono fun e w' ⟨he, hw⟩ => ?_
        refine ⟨_, he, ?_, _, rfl, rfl, .inl ⟨rfl, rfl⟩, trivial⟩
        rcases hw with rfl | ⟨t, rfl⟩
        · exact Wh.Below.refl _ _
        · exact below_of_kit (Lib.bytesWorld_below _ _ _)
      · exact (Any.strconv_Atoi_syntax Tryz.laysC172 p0 (by omega) hq _ w hS (.inr ⟨_, _, rfl⟩)).mono fun e w' ⟨N, he, _, _, hb⟩ => ⟨_, he, below_of_kit hb, _, rfl, rfl, .inr ⟨_, _, rfl, rfl⟩, trivial⟩
      · exact (Tryz.strconv_Atoi_range p0 (by omega) hq _ w hR (.inr ⟨_, _, rfl⟩)).mono fun e w' ⟨N, he, _, _, hb⟩ => ⟨_, he, below_of_kit hb, _, rfl, rfl, .inr ⟨_, _, rfl, rfl⟩, trivial⟩
  · cases h
theorem f28_ok {p0 : List ByteArray} {p1 : ByteArray} {r : ByteArray} (h : M.f28 p0 p1 = some r) : CallOK Tryz.prog 28 [isV p0, isV p1] (isV r) := by
  unfold M.f28 at h
  split at h
  · rename_i hb
    cases h
    intro F w vs hF hfit
    match vs, hfit with
    | [v, u], ⟨hv, hu, _⟩ =>
      have hu : u = .string p1 := hu
      subst hu
      have hv : slice (vw F w) v p0 := hv
      rcases hv with ⟨a, cap, _, _, h0⟩ | ⟨b, off, cap, rfl, hle, hcm, hh⟩
      · rw [h0] at hb; simp at hb
      · have hc : ∀ (j : Nat) x, p0[j]? = some x → w.cell? ⟨b, off + j, none⟩ = some (.string x) := by
          intro j x e
          obtain ⟨hj, rfl⟩ := List.getElem?_eq_some_iff.1 e
          obtain ⟨vs, hr, hq⟩ := hh j hj
          obtain ⟨u, rfl, h3⟩ := rep1_out hr
          have h3 : u = .string p0[j] := h3
          subst h3
          have := hq 0 _ (List.getElem?_eq_getElem (by simp))
          have e1 : off + j * Enc.size ByteArray + 0 = off + j := by show off + j * 1 + 0 = off + j; omega
          rw [e1] at this
          exact vw_cell this
        have hbk : b < w.heap.size := by
          have : 0 < p0.length := by omega
          exact cell_lt (hc 0 p0[0] (List.getElem?_eq_getElem this))
        exact (Tryz.strings_Join b off cap p0 p1 w hc hbk hb.2.1 hle hb.2.2).mono fun e w' ⟨he, hw⟩ => ⟨_, he, ⟨hw.os, hw.tape, hw.output, hw.size, hw.block, Nat.le_refl _⟩, rfl⟩
  · cases h
theorem f30_ok {p0 : ByteArray} {p1 : ByteArray} {r : List ByteArray} (h : M.f30 p0 p1 = some r) : CallOK Tryz.prog 30 [isV p0, isV p1] (isV r) := by
  unfold M.f30 at h
  split at h
  · rename_i hb
    cases h
    obtain ⟨rfl, hb⟩ := hb
    intro F w vs hF hfit
    match vs, hfit with
    | [v, u], ⟨hv, hu, _⟩ =>
      have hu : u = .string ⟨#[32]⟩ := hu
      have hv : v = .string p0 := hv
      subst hu; subst hv
      refine (Tryz.split_one p0 32 w hb).mono fun e w' ⟨he, hw⟩ => ?_
      have hlen := Lib.splitB_all ⟨#[32]⟩ (Nat.le_refl 1) 0 _ p0 rfl
      have hle := Lib.countB_le ⟨#[32]⟩ (Nat.le_refl 1) p0.size p0 (Nat.le_refl _)
      have hbl : Wh.Below w.heap.size w w' := by rw [hw]; exact (Wh.Below.refl _ _).alloc (Nat.le_refl _) _
      refine ⟨_, he, hbl, ?_⟩
      generalize hl : Lib.splitB ⟨#[32]⟩ 0 (Lib.countB p0 ⟨#[32]⟩) p0 = l at *
      refine .inr ⟨w.heap.size, 0, _, by rw [← hlen], by omega, by unfold maxLen; omega, fun i hi => ⟨[.string l[i]], rfl, fun j v e => ?_⟩⟩
      have hj : j = 0 := by
        have := (List.getElem?_eq_some_iff.1 e).1
        simp at this; omega
      subst hj
      cases e
      show vw F w' _ = _
      unfold vw
      rw [if_neg (fun e => by have : w.heap.size < w.heap.size := hF _ e; omega), hw]
      rw [cell_of_row _ _ _ _ _ (0, 0) (heap_alloc_new w _)]
      have e3 : 0 + i * Enc.size ByteArray + 0 = i := by show 0 + i * 1 + 0 = i; omega
      rw [e3]
      simp [hi]
  · cases h
end Go.Proofs.YtnnhmgcigoiceaaGreatDoor
