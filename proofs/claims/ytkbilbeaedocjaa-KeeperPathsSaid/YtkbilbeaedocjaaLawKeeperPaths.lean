/-
  What is proved: for every input there is a fuel with which the model of KeeperPaths returns true.
-/
import Derived.Test.YtkbilbeaedocjaaKeepW
import Derived.Test.YtkbilbeaedocjaaLawKeeperPrices
namespace Go.Proofs.Ytkbilbeaedocjaa
open Go Go.Proofs.Ytkbilbeaedocjaa.Wh
set_option maxRecDepth 100000

theorem path_same {m : S_api_Market} (hf : m.2.2.length ≤ 6 ∨ 12 < m.2.2.length) {l : List Int} (hl : l.length ≤ 100) (a b w : Int) (p : List Int) : ∃ r, M.f64 m l a b w p = some r ∧ M.f65 1000 m l a b w p = some r := by
  by_cases hc : codeQ m l [a, b] [w] = 0
  · obtain ⟨n, kn, of, s, rfl, hm, hs, rfl, h3, h4⟩ := asked_cases hf hc
    simp only [List.all_cons, List.all_nil, Bool.and_true, Bool.and_eq_true] at h3 h4
    obtain ⟨a, rfl, ha⟩ := clock_nat h3.1
    obtain ⟨b, rfl, hb⟩ := clock_nat h3.2
    have hw : w ≤ 16777216 := by unfold sizeB at h4; simp at h4; exact h4.2
    exact ⟨_, hm.f64 hs ha hb hw hc p, hm.f65 ha hb hc p⟩
  · refine ⟨codeQ m l [a, b] [w], ?_, ?_⟩
    · unfold M.f64
      refine bnd (f76_eqQ _ _ _ _ (by omega) (by simp) (by simp)) ?_
      rw [if_pos (by simpa using hc)]
    · unfold M.f65
      refine bnd (f72_eqQ _ _ _ _ (by omega) (by simp)) ?_
      rw [if_pos (by simpa using hc)]
theorem law_KeeperPaths (p0 : S_api_Market) (p1 : List Int) (p2 p3 p4 : Int) (p5 : List Int) : ∃ fuel, M.f14 fuel p0 p1 p2 p3 p4 p5 = some true := by
  refine ⟨1000, ?_⟩
  unfold M.f14
  refine bnd sane_ok ?_
  simp only [Bool.not_true, Bool.false_eq_true, if_false]
  refine bnd rfl ?_
  by_cases hf : (((decide ((p0.2.2.length : Int) ≤ 6)) || ((decide (12 < (p0.2.2.length : Int))) && (decide ((p0.2.2.length : Int) ≤ 20)))) && (decide ((p0.2.1.length : Int) ≤ 30))) = true
  · have hf' : p0.2.2.length ≤ 6 ∨ 12 < p0.2.2.length := by simp at hf; omega
    rw [hf]
    refine bnd (y := decide (p1.length ≤ 100 ∧ p5.length ≤ 100)) (by rw [short_eq _ (by simp)]; simp [guardO]) ?_
    by_cases hs : p1.length ≤ 100 ∧ p5.length ≤ 100
    · rw [if_neg (by simp; omega)]
      obtain ⟨x, h1, h2⟩ := path_same hf' hs.1 p2 p3 p4 p5
      refine bnd h1 (bnd h2 ?_)
      rw [if_neg (by simp)]
      by_cases hc : codeQ p0 p1 [p2, p3] [] = 0
      · obtain ⟨n, kn, of, s, rfl, hm, hss, rfl, h3, _⟩ := asked_cases hf' hc
        simp only [List.all_cons, List.all_nil, Bool.and_true, Bool.and_eq_true] at h3
        obtain ⟨a, rfl, ha⟩ := clock_nat h3.1
        obtain ⟨b, rfl, hb⟩ := clock_nat h3.2
        have hp := hm.f66 hss ha hb hc
        by_cases q : 1099511627776 ≤ WdS n kn of s a b
        · refine bnd (hp.1 q) (bnd (hm.f56 ha hb hc) ?_)
          unfold widthR
          rw [if_pos q]; rfl
        · obtain ⟨p, k1, k2, k3⟩ := hp.2 (by omega)
          have hW := hm.range s ha hb
          have hc2 : codeQ ((n : Int), kn, of) (cst (sel of.length s)) [(a : Int), (b : Int)] [WdS n kn of s a b] = 0 := by
            unfold codeQ at hc ⊢
            split at hc
            · rename_i hv
              rw [if_pos hv]
              split at hc
              · rename_i hq
                rw [if_pos]
                simp only [Bool.and_eq_true] at hq ⊢
                refine ⟨hq.1, ?_⟩
                simp [sizeB]
                omega
              · cases hc
            · cases hc
          refine bnd k1 (bnd (hm.f56 ha hb hc) ?_)
          unfold widthR
          rw [if_neg q]
          rw [if_neg (by simp), if_neg (by simp)]
          refine bnd (y := 0) ?_ rfl
          show guardO true (M.f65 1000 _ _ _ _ _ _) = _
          have := hm.f65 ha hb hc2 p
          rw [k3] at this
          exact this
      · have e : codeQ p0 p1 [p2, p3] [0] = codeQ p0 p1 [p2, p3] [] := by unfold codeQ; rfl
        refine bnd (f66_err (by omega) hc) (bnd (y := (0, false, codeQ p0 p1 [p2, p3] [])) ?_ ?_)
        · unfold M.f56
          refine bnd (f72_eqQ _ _ _ _ (by omega) (by simp)) ?_
          rw [e, if_pos (by simpa using hc)]
        · rw [if_pos (by simpa using hc)]
          simp
    · rw [if_pos (by simp; omega)]
  · rw [Bool.not_eq_true] at hf
    rw [hf]
    rfl
end Go.Proofs.Ytkbilbeaedocjaa
