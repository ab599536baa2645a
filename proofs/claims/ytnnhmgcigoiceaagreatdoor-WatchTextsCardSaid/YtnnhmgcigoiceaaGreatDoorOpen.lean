/-
  What is proved: what the arguments of the laws are, opened.
-/
import Derived.Test.YtnnhmgcigoiceaaGreatDoorTypes
import Derived.Test.YtnnhmgcigoiceaaGreatDoorBaseD
set_option maxRecDepth 100000
namespace Go.Proofs.YtnnhmgcigoiceaaGreatDoor
open Go Go.RowKit Go.Proofs.YtnnhmgcigoiceaaGreatDoor.Wh

theorem op3 : OpenT Tryz.prog 3 Int := OpenT.int (by kernel_rfl) Tryz.underlying3
theorem op23 : OpenT Tryz.prog 23 S_api_Turn where
  ty := TyP.mk' Tryz.underlying23 rfl (by kernel_rfl)
  one ha := by cases ha
  out n cs x h := by
    obtain ⟨m, hl, hf⟩ := trod_struct Tryz.underlying23 h
    obtain ⟨a0, h0⟩ := op3.fld (hf 0 _ rfl)
    obtain ⟨a1, h1⟩ := op3.fld (hf 1 _ rfl)
    obtain ⟨a2, h2⟩ := op3.fld (hf 2 _ rfl)
    obtain ⟨a3, h3⟩ := op3.fld (hf 3 _ rfl)
    obtain ⟨a4, h4⟩ := op3.fld (hf 4 _ rfl)
    obtain ⟨a5, h5⟩ := op3.fld (hf 5 _ rfl)
    have hl : cs.length = 6 := hl.trans (by kernel_rfl)
    exact ⟨(a0, a1, a2, a3, a4, a5), rep_pair (by simpa using h0) (rep_pair (by have h := h1; exact h) (rep_pair (by have h := h2; simp only [List.drop_drop]; exact h) (rep_pair (by have h := h3; simp only [List.drop_drop]; exact h) (rep_pair (by have h := h4; simp only [List.drop_drop]; exact h) (by have h := h5; rw [List.take_of_length_le (by rw [List.length_drop, hl]; decide)] at h; simp only [List.drop_drop]; exact h)))))⟩
theorem op9 : OpenT Tryz.prog 9 ByteArray := OpenT.str (by kernel_rfl) Tryz.underlying9
end Go.Proofs.YtnnhmgcigoiceaaGreatDoor
