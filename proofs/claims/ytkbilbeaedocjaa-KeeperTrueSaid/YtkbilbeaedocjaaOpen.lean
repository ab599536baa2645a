/-
  What is proved: what the arguments of the laws are, opened.
-/
import Derived.Test.YtkbilbeaedocjaaTypes
import Derived.Test.YtkbilbeaedocjaaBaseD
set_option maxRecDepth 100000
namespace Go.Proofs.Ytkbilbeaedocjaa
open Go Go.RowKit Go.Proofs.Ytkbilbeaedocjaa.Wh

theorem op3 : OpenT Try.prog 3 Int := OpenT.int (by kernel_rfl) Try.underlying3
theorem op59 : OpenT Try.prog 59 S_api_Offer where
  ty := TyP.mk' Try.underlying59 rfl (by kernel_rfl)
  one ha := by cases ha
  out n cs x h := by
    obtain ⟨m, hl, hf⟩ := trod_struct Try.underlying59 h
    obtain ⟨a0, h0⟩ := op3.fld (hf 0 _ rfl)
    obtain ⟨a1, h1⟩ := op3.fld (hf 1 _ rfl)
    obtain ⟨a2, h2⟩ := op3.fld (hf 2 _ rfl)
    obtain ⟨a3, h3⟩ := op3.fld (hf 3 _ rfl)
    have hl : cs.length = 4 := hl.trans (by kernel_rfl)
    exact ⟨(a0, a1, a2, a3), rep_pair (by simpa using h0) (rep_pair (by have h := h1; exact h) (rep_pair (by have h := h2; simp only [List.drop_drop]; exact h) (by have h := h3; rw [List.take_of_length_le (by rw [List.length_drop, hl]; decide)] at h; simp only [List.drop_drop]; exact h)))⟩
theorem op22 : OpenT Try.prog 22 (List S_api_Offer) := OpenT.slice (by kernel_rfl) Try.underlying22 op59 rfl
theorem op24 : OpenT Try.prog 24 S_api_Market where
  ty := TyP.mk' Try.underlying24 rfl (by kernel_rfl)
  one ha := by cases ha
  out n cs x h := by
    obtain ⟨m, hl, hf⟩ := trod_struct Try.underlying24 h
    obtain ⟨a0, h0⟩ := op3.fld (hf 0 _ rfl)
    obtain ⟨a1, h1⟩ := op22.fld (hf 1 _ rfl)
    obtain ⟨a2, h2⟩ := op22.fld (hf 2 _ rfl)
    have hl : cs.length = 3 := hl.trans (by kernel_rfl)
    exact ⟨(a0, a1, a2), rep_pair (by simpa using h0) (rep_pair (by have h := h1; exact h) (by have h := h2; rw [List.take_of_length_le (by rw [List.length_drop, hl]; decide)] at h; simp only [List.drop_drop]; exact h))⟩
theorem op27 : OpenT Try.prog 27 (List Int) := OpenT.slice (by kernel_rfl) Try.underlying27 op3 rfl
theorem op54 : OpenT Try.prog 54 (Vector Int 2) := OpenT.array (by kernel_rfl) Try.underlying54 op3 rfl rfl (fun c cs l hl hc hi => vec_open hl hc hi)
theorem op48 : OpenT Try.prog 48 (List (Vector Int 2)) := OpenT.slice (by kernel_rfl) Try.underlying48 op54 rfl
theorem op44 : OpenT Try.prog 44 (List (List (Vector Int 2))) := OpenT.slice (by kernel_rfl) Try.underlying44 op48 rfl
theorem op82 : OpenT Try.prog 82 S_api_Span where
  ty := TyP.mk' Try.underlying82 rfl (by kernel_rfl)
  one ha := by cases ha
  out n cs x h := by
    obtain ⟨m, hl, hf⟩ := trod_struct Try.underlying82 h
    obtain ⟨a0, h0⟩ := op3.fld (hf 0 _ rfl)
    obtain ⟨a1, h1⟩ := op3.fld (hf 1 _ rfl)
    have hl : cs.length = 2 := hl.trans (by kernel_rfl)
    exact ⟨(a0, a1), rep_pair (by simpa using h0) (by have h := h1; rw [List.take_of_length_le (by rw [List.length_drop, hl]; decide)] at h; exact h)⟩
theorem op80 : OpenT Try.prog 80 (List S_api_Span) := OpenT.slice (by kernel_rfl) Try.underlying80 op82 rfl
end Go.Proofs.Ytkbilbeaedocjaa
