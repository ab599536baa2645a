/-
  What is proved: for all rosters, gates and lists the model of WatchPlans returns true.
-/
import Derived.Test.YthogdhepjcomjaaGreatDoorWatT
namespace Go.Proofs.YthogdhepjcomjaaGreatDoor
open Go Go.Proofs.YthogdhepjcomjaaGreatDoor.Wh

theorem law_WatchPlans (p0 : S_api_Roster) (p1 : Int) (p2 : List Int) : ∃ fuel, M.f15 fuel p0 p1 p2 = some true := by
  obtain ⟨fuel, hf⟩ : ∃ fuel, fuel = fuB p0 := ⟨_, rfl⟩
  have hf0 : fuB p0 ≤ fuel := by omega
  have hf1 : 100 < fuel := by unfold fuB at hf; omega
  refine ⟨fuel, ?_⟩
  unfold M.f15
  rw [sane_at (by omega), f17_eq (by simp)]
  simp only [Option.bind_eq_bind, Option.bind_some, Bool.not_true, Bool.false_eq_true, if_false]
  cases hq : fewB p0 [p2] with
  | false => rfl
  | true =>
    have hl : p2.length ≤ 100 := by
      unfold fewB at hq
      simp only [List.all_cons, List.all_nil, Bool.and_true, Bool.and_eq_true, decide_eq_true_eq] at hq
      omega
    obtain ⟨v, ⟨v1, _⟩, hv⟩ := plan_both (r := p0) (g := p1)
    obtain ⟨u, u1, hu⟩ := few_both (r := p0) (g := p1)
    obtain ⟨w, ⟨w1, w2⟩, w3, w4⟩ := all_both hf0
    have hv := hv fuel hf0
    have hu := hu fuel hf0
    simp only [f35_eq hl hf1, f65_eq hl hf1, hv.1, hv.2, hu.1, hu.2, w3, w4, Option.bind_some, bne_self_eq_false, Bool.not_true, Bool.false_eq_true, if_false, f24_eq (show v.1.length ≤ 4294967296 by omega), f24_eq (show u.1.length ≤ 4294967296 by omega), f70_self (show w.1.length ≤ 4294967296 by omega) w2, beq_self_eq_true, Bool.and_true, guardO]
end Go.Proofs.YthogdhepjcomjaaGreatDoor
