/-
  What is proved: what the arguments of the laws are, opened.
-/
import Derived.Test.YthogdhepjcomjaaGreatDoorTypes
import Derived.Test.YthogdhepjcomjaaGreatDoorBaseD
set_option maxRecDepth 100000
namespace Go.Proofs.YthogdhepjcomjaaGreatDoor
open Go Go.RowKit Go.Proofs.YthogdhepjcomjaaGreatDoor.Wh

theorem op3 : OpenT Tryz.prog 3 Int := OpenT.int (by kernel_rfl) Tryz.underlying3
theorem op26 : OpenT Tryz.prog 26 (List Int) := OpenT.slice (by kernel_rfl) Tryz.underlying26 op3 rfl
theorem op22 : OpenT Tryz.prog 22 (List (List Int)) := OpenT.slice (by kernel_rfl) Tryz.underlying22 op26 rfl
theorem op45 : OpenT Tryz.prog 45 S_api_Turn where
  ty := TyP.mk' Tryz.underlying45 rfl (by kernel_rfl)
  one ha := by cases ha
  out n cs x h := by
    obtain ⟨m, hl, hf⟩ := trod_struct Tryz.underlying45 h
    obtain ⟨a0, h0⟩ := op3.fld (hf 0 _ rfl)
    obtain ⟨a1, h1⟩ := op3.fld (hf 1 _ rfl)
    obtain ⟨a2, h2⟩ := op3.fld (hf 2 _ rfl)
    obtain ⟨a3, h3⟩ := op3.fld (hf 3 _ rfl)
    obtain ⟨a4, h4⟩ := op3.fld (hf 4 _ rfl)
    obtain ⟨a5, h5⟩ := op3.fld (hf 5 _ rfl)
    have hl : cs.length = 6 := hl.trans (by kernel_rfl)
    exact ⟨(a0, a1, a2, a3, a4, a5), rep_pair (by simpa using h0) (rep_pair (by have h := h1; exact h) (rep_pair (by have h := h2; simp only [List.drop_drop]; exact h) (rep_pair (by have h := h3; simp only [List.drop_drop]; exact h) (rep_pair (by have h := h4; simp only [List.drop_drop]; exact h) (by have h := h5; rw [List.take_of_length_le (by rw [List.length_drop, hl]; decide)] at h; simp only [List.drop_drop]; exact h)))))⟩
theorem op23 : OpenT Tryz.prog 23 (List S_api_Turn) := OpenT.slice (by kernel_rfl) Tryz.underlying23 op45 rfl
theorem op25 : OpenT Tryz.prog 25 S_api_Roster where
  ty := TyP.mk' Tryz.underlying25 rfl (by kernel_rfl)
  one ha := by cases ha
  out n cs x h := by
    obtain ⟨m, hl, hf⟩ := trod_struct Tryz.underlying25 h
    obtain ⟨a0, h0⟩ := op3.fld (hf 0 _ rfl)
    obtain ⟨a1, h1⟩ := op3.fld (hf 1 _ rfl)
    obtain ⟨a2, h2⟩ := op3.fld (hf 2 _ rfl)
    obtain ⟨a3, h3⟩ := op22.fld (hf 3 _ rfl)
    obtain ⟨a4, h4⟩ := op23.fld (hf 4 _ rfl)
    have hl : cs.length = 5 := hl.trans (by kernel_rfl)
    exact ⟨(a0, a1, a2, a3, a4), rep_pair (by simpa using h0) (rep_pair (by have h := h1; exact h) (rep_pair (by have h := h2; simp only [List.drop_drop]; exact h) (rep_pair (by have h := h3; simp only [List.drop_drop]; exact h) (by have h := h4; rw [List.take_of_length_le (by rw [List.length_drop, hl]; decide)] at h; simp only [List.drop_drop]; exact h))))⟩
end Go.Proofs.YthogdhepjcomjaaGreatDoor
