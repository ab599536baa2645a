/-
  What is proved: for every input there is a fuel with which the model of KeeperBest returns true.
-/
import Derived.Test.YtkbilbeaedocjaaKeepH
import Derived.Test.YtkbilbeaedocjaaLawKeeperPrices
namespace Go.Proofs.Ytkbilbeaedocjaa
open Go Go.Proofs.Ytkbilbeaedocjaa.Wh

theorem law_KeeperBest (p0 : S_api_Market) (p1 p2 p3 : Int) : ∃ fuel, M.f4 fuel p0 p1 p2 p3 = some true := by
  refine ⟨1000, ?_⟩
  unfold M.f4
  refine bnd sane_ok ?_
  simp only [Bool.not_true, Bool.false_eq_true, if_false]
  refine bnd rfl ?_
  by_cases hf : (((decide ((p0.2.2.length : Int) ≤ 6)) || ((decide (12 < (p0.2.2.length : Int))) && (decide ((p0.2.2.length : Int) ≤ 20)))) && (decide ((p0.2.1.length : Int) ≤ 30))) = true
  · rw [if_neg (by rw [hf]; simp)]
    have hf' : p0.2.2.length ≤ 6 ∨ 12 < p0.2.2.length := by simp at hf; omega
    obtain ⟨x, h1, h2, h3⟩ := best_same hf' p1 p2 p3
    obtain ⟨y, h4, h5, h6⟩ := together_same hf' p3
    obtain ⟨z, h7, h8, h9⟩ := tree_same hf'
    refine bnd h1 (bnd h2 (bnd (f24_same x.1 (by omega)) ?_))
    rw [if_neg (by simp)]
    refine bnd h4 (bnd h5 (bnd (f24_same y.1 (by omega)) ?_))
    rw [if_neg (by simp)]
    refine bnd h7 (bnd h8 (bnd (f24_same z.1 (by omega)) ?_))
    simp
  · rw [Bool.not_eq_true] at hf
    rw [if_pos (by rw [hf]; rfl)]
end Go.Proofs.Ytkbilbeaedocjaa
