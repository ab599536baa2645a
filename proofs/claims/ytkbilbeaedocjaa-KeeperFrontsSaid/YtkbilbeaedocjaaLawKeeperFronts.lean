/-
  What is proved: for every input there is a fuel with which the model of KeeperFronts returns true.
-/
import Derived.Test.YtkbilbeaedocjaaKeepM
import Derived.Test.YtkbilbeaedocjaaLawKeeperPrices
namespace Go.Proofs.Ytkbilbeaedocjaa
open Go Go.Proofs.Ytkbilbeaedocjaa.Wh
set_option maxRecDepth 100000

theorem law_KeeperFronts (p0 : S_api_Market) (p1 : Int) (p2 : List (List (Vector Int 2))) : ∃ fuel, M.f11 fuel p0 p1 p2 = some true := by
  refine ⟨1000, ?_⟩
  unfold M.f11
  refine bnd sane_ok ?_
  simp only [Bool.not_true, Bool.false_eq_true, if_false]
  refine bnd (f17_eq p0) ?_
  cases hf : fewB p0 with
  | false => rfl
  | true =>
    by_cases hl : (20 : Int) < (p2.length : Int)
    · simp only [hl, decide_true, Bool.or_true, Bool.not_true, Bool.true_or, if_true]
      rfl
    · have h43 := f43_eq p2 100 (fun x0 => M.f51 x0) (fun x => rfl) (by omega)
      simp only [hl, decide_false, Bool.not_true, Bool.or_self, Bool.not_false, guardO, Bool.false_or]
      refine bnd h43 ?_
      by_cases hs : (p2.any fun x => decide (100 < x.length)) = true
      · rw [if_pos hs]
      · rw [if_neg hs]
        have hin : ∀ x ∈ p2, x.length ≤ 100 := fun x hx => by
          rcases Nat.lt_or_ge 100 x.length with q | q
          · exact absurd (List.any_eq_true.2 ⟨x, hx, by simpa using q⟩) hs
          · exact q
        by_cases hc : codeQ p0 [] [p1] [] = 0
        · obtain ⟨n, kn, of, s, rfl, hm, _, _, hcl, _⟩ := asked_cases (fewB_or hf) hc
          simp only [List.all_cons, List.all_nil, Bool.and_true] at hcl
          obtain ⟨a, rfl, ha⟩ := clock_nat hcl
          have h8 := hm.n8
          have hlen : (tab n (frontS n kn of a)).length ≤ 900 := by rw [tab_len]; omega
          have hrow : ∀ x ∈ tab n (frontS n kn of a), x.length ≤ 64 := by
            intro x hx
            unfold tab at hx
            obtain ⟨b, _, rfl⟩ := List.mem_map.1 hx
            exact frontS_len hm a b
          refine bnd (hm.f34 ha hc) (bnd (hm.f52 ha hc) (bnd (f36_eq hlen fun x hx => by have := hrow x hx; omega) ?_))
          have h53 : ∀ l : List (List Pair), l.length ≤ 4096 → (∀ x ∈ l, x.length ≤ 4096) → M.f53 ((n : Int), kn, of) a l = some (if (l == tab n (frontS n kn of a)) = true then 0 else 81) := by
            intro l h1 h2
            unfold M.f53
            refine bnd (f76_eqQ _ _ _ _ (by simp) (by simp) (by simp)) ?_
            rw [hc, if_neg (by decide)]
            refine bnd (hm.f93 ha) (bnd (f104_eq h1 h2) ?_)
            cases l == tab n (frontS n kn of a) <;> rfl
          have h54 : M.f54 1000 ((n : Int), kn, of) a p2 = some (if (tab n (frontS n kn of a) == p2) = true then 0 else 81) := by
            unfold M.f54
            refine bnd (hm.f52 ha hc) ?_
            rw [if_neg (by simp)]
            refine bnd (f36_eq hlen fun x hx => by have := hrow x hx; omega) ?_
            cases tab n (frontS n kn of a) == p2 <;> rfl
          simp only [beq_self_eq_true, Bool.and_self, guardO]
          refine bnd (h53 p2 (by omega) fun x hx => by have := hin x hx; omega) (bnd h54 ?_)
          have e : (p2 == tab n (frontS n kn of a)) = (tab n (frontS n kn of a) == p2) := Bool.eq_iff_iff.2 (by rw [beq_iff_eq, beq_iff_eq]; exact eq_comm)
          rw [e]
          simp only [beq_self_eq_true, bne_self_eq_false, Bool.not_false, Bool.and_self, Bool.true_and, Bool.false_or]
          refine bnd (h53 _ (by omega) fun x hx => by have := hrow x hx; omega) ?_
          simp
        · have hc' : codeQ p0 [] [p1] [0] = codeQ p0 [] [p1] [] := by unfold codeQ; rfl
          have hb : (codeQ p0 [] [p1] [] != 0) = true := by simpa using hc
          have h34 : M.f34 p0 p1 = some ([], codeQ p0 [] [p1] []) := by
            unfold M.f34
            refine bnd (f76_eqQ _ _ _ _ (by simp) (by simp) (by simp)) ?_
            rw [if_pos hb]
          have h52 : M.f52 1000 p0 p1 = some ([], codeQ p0 [] [p1] []) := by
            unfold M.f52
            refine bnd (f72_eqQ _ _ _ _ (by simp) (by simp)) ?_
            rw [hc', if_pos hb]
          have h53 : M.f53 p0 p1 p2 = some (codeQ p0 [] [p1] []) := by
            unfold M.f53
            refine bnd (f76_eqQ _ _ _ _ (by simp) (by simp) (by simp)) ?_
            rw [if_pos hb]
          have h54 : M.f54 1000 p0 p1 p2 = some (codeQ p0 [] [p1] []) := by
            unfold M.f54
            refine bnd h52 ?_
            rw [if_pos hb]
          refine bnd h34 (bnd h52 (bnd (f36_eq (by simp) (by simp)) ?_))
          simp only [beq_self_eq_true, Bool.and_self, guardO]
          refine bnd h53 (bnd h54 ?_)
          simp only [beq_self_eq_true, Bool.and_self, hb, Bool.not_true, Bool.and_false, Bool.true_or, Option.bind_eq_bind, Option.bind_some]
end Go.Proofs.Ytkbilbeaedocjaa
