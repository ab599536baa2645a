/-
  What is proved: for every input there is a fuel with which the model of KeeperForms returns true.
-/
import Derived.Test.YtkbilbeaedocjaaKeepI
import Derived.Test.YtkbilbeaedocjaaLawKeeperPrices
namespace Go.Proofs.Ytkbilbeaedocjaa
open Go Go.Proofs.Ytkbilbeaedocjaa.Wh

theorem law_KeeperForms (p0 : S_api_Market) (p1 : List Int) (p2 p3 : Int) : ∃ fuel, M.f12 fuel p0 p1 p2 p3 = some true := by
  refine ⟨1000, ?_⟩
  unfold M.f12
  refine bnd sane_ok ?_
  simp only [Bool.not_true, Bool.false_eq_true, if_false]
  refine bnd rfl ?_
  by_cases hf : (((decide ((p0.2.2.length : Int) ≤ 6)) || ((decide (12 < (p0.2.2.length : Int))) && (decide ((p0.2.2.length : Int) ≤ 20)))) && (decide ((p0.2.1.length : Int) ≤ 30))) = true
  · have hf' : p0.2.2.length ≤ 6 ∨ 12 < p0.2.2.length := by simp at hf; omega
    rw [hf]
    refine bnd (y := decide (p1.length ≤ 100)) (by rw [short_eq _ (by simp)]; simp [guardO]) ?_
    by_cases hs : p1.length ≤ 100
    · rw [if_neg (by simp [hs])]
      obtain ⟨x, h1, h2⟩ := width_same hf' hs p2 p3
      obtain ⟨y, h3, h4⟩ := cost_same hf' hs
      obtain ⟨z, h5, h6, n, F, hn, hz⟩ := widths_same hf' hs
      refine bnd h1 (bnd h2 (bnd h3 (bnd h4 (bnd h5 (bnd h6 (bnd (f41_eq p0) (bnd (f42_eq p0) ?_)))))))
      rw [hz, f60_same n hn F]
      simp [guardO]
    · rw [if_pos (by simp [hs])]
  · rw [Bool.not_eq_true] at hf
    rw [hf]
    rfl
end Go.Proofs.Ytkbilbeaedocjaa
