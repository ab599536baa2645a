/-
  What is proved: the sort that models use: a permutation, in order.
-/
import Derived.Test.YtjlagmcdoobimaaGreatDoorPrim
namespace Go.Proofs.YtjlagmcdoobimaaGreatDoor.Wh
open Go

theorem isort_perm {α : Type} (lt : α → α → Bool) : ∀ l : List α, (isort lt l).Perm l
  | [] => .nil
  | x :: l => by
    have hi : ∀ (r : List α), (ins lt x r).Perm (x :: r) := by
      intro r
      induction r with
      | nil => exact .refl _
      | cons y r ih =>
        unfold ins
        split
        · exact (ih.cons y).trans (.swap x y r)
        · exact .refl _
    exact (hi _).trans ((isort_perm lt l).cons x)
theorem isort_sorted {α : Type} (lt : α → α → Bool) (trans : ∀ a b c, lt b a = false → lt c b = false → lt c a = false) (asym : ∀ a b, lt a b = true → lt b a = false) : ∀ l : List α, (isort lt l).Pairwise fun a b => lt b a = false
  | [] => .nil
  | x :: l => by
    have hi : ∀ (r : List α), r.Pairwise (fun a b => lt b a = false) → (ins lt x r).Pairwise fun a b => lt b a = false := by
      intro r hr
      induction r with
      | nil => simp [ins]
      | cons y r ih =>
        unfold ins
        have hr' := List.pairwise_cons.1 hr
        split
        · rename_i h
          refine List.pairwise_cons.2 ⟨fun z hz => ?_, ih hr'.2⟩
          have hz' : z ∈ x :: r := by
            have : (ins lt x r).Perm (x :: r) := by
              clear ih hr hr' hz
              induction r with
              | nil => exact .refl _
              | cons q r ih =>
                unfold ins
                split
                · exact (ih.cons q).trans (.swap x q r)
                · exact .refl _
            exact this.mem_iff.1 hz
          rcases List.mem_cons.1 hz' with rfl | hz'
          · exact asym _ _ h
          · exact hr'.1 z hz'
        · rename_i h
          have h : lt y x = false := by simpa using h
          refine List.pairwise_cons.2 ⟨fun z hz => ?_, hr⟩
          rcases List.mem_cons.1 hz with rfl | hz
          · exact h
          · exact trans _ _ _ h (hr'.1 z hz)
    exact hi _ (isort_sorted lt trans asym l)
end Go.Proofs.YtjlagmcdoobimaaGreatDoor.Wh
