/-
  What is proved: the chapter's examples are as they are told; which inputs are small enough.
-/
import Derived.Test.YthogdhepjcomjaaGreatDoorWatE
namespace Go.Proofs.YthogdhepjcomjaaGreatDoor
open Go Go.Proofs.YthogdhepjcomjaaGreatDoor.Wh

set_option maxRecDepth 100000 in
theorem sane_any (n : Nat) : M.f16 (n + 20) = some true := by kernel_rfl
theorem sane_at {fuel : Nat} (h : 20 ≤ fuel) : M.f16 fuel = some true := by
  obtain ⟨n, rfl⟩ : ∃ n, fuel = n + 20 := ⟨fuel - 20, by omega⟩
  exact sane_any n
theorem sane_eq : M.f16 1000 = some true := sane_at (by omega)
def fewB (r : S_api_Roster) (ls : List (List Int)) : Bool := ls.all (fun l => decide ((l.length : Int) ≤ 100)) && (decide ((r.2.2.2.1.length : Int) ≤ 100) && decide ((r.2.2.2.2.length : Int) ≤ 100))
theorem f17_eq {r : S_api_Roster} {ls : List (List Int)} (h : ls.length ≤ 4294967296) : M.f17 r ls = some (fewB r ls) := by
  unfold M.f17 fewB
  refine bnd (forM_all ls h (fun l => decide ((l.length : Int) ≤ 100)) false _ fun i x hx => ?_) ?_
  · simp only [idx_nat, hx, Option.bind_eq_bind, Option.bind_some]
    by_cases q : (x.length : Int) ≤ 100
    · rw [if_neg (by rw [decide_eq_true_eq]; omega), if_pos (by rw [decide_eq_true_eq]; omega)]
    · rw [if_pos (by rw [decide_eq_true_eq]; omega), if_neg (by rw [decide_eq_true_eq]; omega)]
  · generalize ls.all (fun l => decide ((l.length : Int) ≤ 100)) = q
    cases q <;> rfl
end Go.Proofs.YthogdhepjcomjaaGreatDoor
