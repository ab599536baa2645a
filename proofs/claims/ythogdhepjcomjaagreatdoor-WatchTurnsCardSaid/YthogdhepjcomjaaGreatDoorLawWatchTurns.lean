/-
  What is proved: for all rosters, indices and numbers the model of WatchTurns returns true.
-/
import Derived.Test.YthogdhepjcomjaaGreatDoorWatF
namespace Go.Proofs.YthogdhepjcomjaaGreatDoor
open Go Go.Proofs.YthogdhepjcomjaaGreatDoor.Wh

theorem law_WatchTurns (p0 : S_api_Roster) (p1 p2 : Int) (p3 p4 : List Int) : ∃ fuel, M.f9 fuel p0 p1 p2 p3 p4 = some true := by
  refine ⟨1000, ?_⟩
  unfold M.f9
  rw [sane_eq, f17_eq (by simp)]
  simp only [Option.bind_eq_bind, Option.bind_some, Bool.not_true, Bool.false_eq_true, if_false]
  cases h : fewB p0 [p3, p4] with
  | false => rfl
  | true =>
    unfold fewB at h
    simp only [List.all_cons, List.all_nil, Bool.and_true, Bool.and_eq_true, decide_eq_true_eq] at h
    simp only [f47_eq, f48_eq (show 32 < 1000 by omega), f36_eq, f37_eq, f38_eq, f49_eq (show 32 < 1000 by omega), f50_eq (show 32 < 1000 by omega), f51_eq (show 32 < 1000 by omega), f40_eq (show p3.length ≤ 4294967296 by omega), f52_eq (show 32 < 1000 by omega),
      f53_eq (show p4.length ≤ 4294967296 by omega), f54_eq (show 32 < 1000 by omega) (show p4.length < 1000 by omega) (show p4.length ≤ 4294967295 by omega), Option.bind_some, bne_self_eq_false, Bool.not_true, Bool.false_eq_true, if_false, Bool.or_false]
    have hw : (whoV p0 p3).1.length ≤ 4294967296 := by
      unfold whoV
      split
      · split
        · have := selI_len (fun j => guB (tnJ p0 j) p3) p0.2.2.2.2.length
          simp only
          omega
        · simp
      · simp
    simp only [f24_eq hw, Option.bind_some, beq_self_eq_true, Bool.and_true, Bool.true_and]
end Go.Proofs.YthogdhepjcomjaaGreatDoor
