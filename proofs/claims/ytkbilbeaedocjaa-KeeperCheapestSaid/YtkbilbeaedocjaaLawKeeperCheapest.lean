/-
  What is proved: for every input there is a fuel with which the model of KeeperCheapest returns true.
-/
import Derived.Test.YtkbilbeaedocjaaKeepK
import Derived.Test.YtkbilbeaedocjaaLawKeeperPrices
namespace Go.Proofs.Ytkbilbeaedocjaa
open Go Go.Proofs.Ytkbilbeaedocjaa.Wh
set_option maxRecDepth 100000

theorem f40_eq {a b : List Nat} (x y : Int) (h : a.length ≤ 4096) : M.f40 (cst a) x (cst b) y = some (befL x a y b) := by
  unfold M.f40 befL
  by_cases h1 : x = y
  · subst h1
    rw [if_neg (by simp)]
    have e : ¬ x < x := by omega
    simp only [e, decide_false, Bool.false_or, decide_true, Bool.true_and]
    rw [cst_length, cst_length]
    by_cases h2 : a.length = b.length
    · rw [if_neg (by simp; omega)]
      refine bnd (f94_eq h) ?_
      have e2 : ¬ a.length < b.length := by omega
      simp only [e2, decide_false, Bool.false_or, h2, decide_true, Bool.true_and]
      rw [cmpL_lt]
      simp
    · rw [if_pos (by simp; omega)]
      simp [h2]
  · rw [if_pos (by simpa using h1)]
    simp [h1]
theorem f38_eq {F : List Pair} {w : Int} (h : F.length ≤ 4096) : M.f38 F ((fun x0 => M.f39 x0 w) : (Pair → Option Bool)) = some (idxF (fun p : Pair => decide (p[1] ≤ w)) F) := by
  have e3 : ∀ z : Pair, idxA z 1 = some z[1] := fun z => by simp [idxA, idx]
  unfold M.f38
  refine bnd (forM_idx F (fun p : Pair => decide (p[1] ≤ w)) (by omega) fun j x hx => ?_) ?_
  · rw [idx_nat, hx]
    unfold M.f39
    simp only [Option.bind_eq_bind, Option.bind_some, e3]
    split <;> rfl
  · unfold idxF
    cases F.findIdx? (fun p : Pair => decide (p[1] ≤ w)) <;> rfl
theorem idxF_is {α : Type} {p : α → Bool} {xs : List α} {i : Nat} (hi : i < xs.length) (h : p xs[i] = true) (hn : ∀ j (hj : j < xs.length), j < i → p xs[j] = false) : idxF p xs = (i : Int) := by
  unfold idxF
  have : xs.findIdx? p = some i := by
    rw [List.findIdx?_eq_some_iff_getElem]
    exact ⟨hi, h, fun j hj => by rw [hn j (by omega) hj]; simp⟩
  rw [this]
theorem law_KeeperCheapest (p0 : S_api_Market) (p1 : List Int) (p2 p3 p4 : Int) : ∃ fuel, M.f6 fuel p0 p1 p2 p3 p4 = some true := by
  refine ⟨1000, ?_⟩
  unfold M.f6
  refine bnd sane_ok ?_
  simp only [Bool.not_true, Bool.false_eq_true, if_false]
  refine bnd (f31_eq p0 p1 [p2, p3] (by simp)) ?_
  by_cases hc : askB p0 p1 [p2, p3] = true ∧ 0 ≤ p4 ∧ p4 ≤ 16777216
  · obtain ⟨ha, h0, h1⟩ := hc
    rw [if_neg (by rw [ha]; simp; omega)]
    obtain ⟨n, kn, of, s, rfl, hm, hv, hs, rfl, hcl⟩ := ask_cases ha
    simp only [List.all_cons, List.all_nil, Bool.and_true, Bool.and_eq_true] at hcl
    clear ha
    obtain ⟨a, rfl, ha⟩ := clock_nat hcl.1
    obtain ⟨b, rfl, hb⟩ := clock_nat hcl.2
    have h6 := hm.lo
    refine bnd (hm.f25s hv ha hb h0 h1) (bnd (hm.f34s hv ha) (bnd (hm.f33s hv hs ha hb) (bnd (hm.f37s hv hs) ?_)))
    have hw0 : (widthR (WdS n kn of s a b)).2.2 = 0 := by unfold widthR; split <;> rfl
    have hb0 : (bestR of (qW n kn of a b p4)).2.2 = 0 := by unfold bestR; cases lst (bfS of) (qW n kn of a b p4) (2 ^ of.length) <;> rfl
    rw [if_neg (by rw [hb0, hw0]; simp [tab_len])]
    refine bnd (idx_tab hb) ?_
    have hF := frontS_front n kn of a b
    have hlen : (frontS n kn of a b).length ≤ 64 := by
      have h1 := keep_fold_len (isort ltP (prs n kn of a b (2 ^ of.length))) []
      have h2 := (isort_perm ltP (prs n kn of a b (2 ^ of.length))).length_eq
      have h3 := prs_len n kn of a b (2 ^ of.length)
      have h4 := hm.pow
      unfold frontS
      simp only [List.length_nil] at h1
      omega
    refine bnd (f38_eq (by omega)) ?_
    rw [idxF_any]
    have hknown : ∀ z : Int, (WdS n kn of s a b ≤ p4 → z = z) := fun z _ => rfl
    unfold bestR
    cases hl : lst (bfS of) (qW n kn of a b p4) (2 ^ of.length) with
    | none =>
      have hno := best_none hl
      have hany : (frontS n kn of a b).any (fun p : Pair => decide (p[1] ≤ p4)) = false := by
        rw [List.any_eq_false]
        intro p hp
        obtain ⟨t, ht, _, rfl⟩ := mem_prs.1 (hF.sub p hp)
        have := hno t ht
        unfold qW at this
        show ¬ decide (WdS n kn of t a b ≤ p4) = true
        rw [this]; simp
      simp only [hany, bne_self_eq_false, Bool.false_eq_true, if_false, Bool.not_false, if_true]
      congr 1
      have := hno s hs
      unfold qW at this
      simp only [decide_eq_false_iff_not] at this
      unfold widthR
      split
      · rfl
      · simp; omega
    | some t =>
      obtain ⟨ht, hq, hleast⟩ := best_some hl
      have hqt : WdS n kn of t a b ≤ p4 := by unfold qW at hq; simpa using hq
      have hp : (#v[cS of t, WdS n kn of t a b] : Pair) ∈ prs n kn of a b (2 ^ of.length) := mem_prs.2 ⟨t, ht, by omega, rfl⟩
      obtain ⟨i, hi, hiw, hifirst, hicheap⟩ := hF.cheap hp (w := p4) hqt
      have hany : (frontS n kn of a b).any (fun p : Pair => decide (p[1] ≤ p4)) = true := by
        rw [List.any_eq_true]
        exact ⟨_, List.getElem_mem hi, by simpa using hiw⟩
      have hidx : idxF (fun p : Pair => decide (p[1] ≤ p4)) (frontS n kn of a b) = (i : Int) := idxF_is hi (by simpa using hiw) (fun j hj hji => by simpa using hifirst j hj hji)
      simp only [hany, hidx, bne_self_eq_false, Bool.false_eq_true, if_false, Bool.not_true]
      refine bnd (hm.f37s hv ht) (bnd (hm.f33s hv ht ha hb) ?_)
      have hwt : widthR (WdS n kn of t a b) = (WdS n kn of t a b, true, 0) := by unfold widthR; rw [if_neg (by omega)]
      rw [hwt]
      have e0 : ∀ z : Pair, idxA z 0 = some z[0] := fun z => by simp [idxA, idx]
      simp only [beq_self_eq_true, Bool.and_self, hqt, decide_true, guardO, Bool.true_and]
      refine bnd (idx_tab hb) (bnd (by rw [idx_nat, List.getElem?_eq_getElem hi]) (bnd (e0 _) ?_))
      have hcost : cS of t = (frontS n kn of a b)[i][0] := by
        have h1 := hicheap _ hp hqt
        obtain ⟨u, hu, _, e⟩ := mem_prs.1 (hF.sub _ (List.getElem_mem hi))
        have h2 : (frontS n kn of a b)[i][0] = cS of u := by rw [e]; rfl
        have h3 : (frontS n kn of a b)[i][1] = WdS n kn of u a b := by rw [e]; rfl
        have h4 := bfS_cost (hleast u hu (by unfold qW; rw [← h3]; simpa using hiw))
        have h5 : (#v[cS of t, WdS n kn of t a b] : Pair)[0] = cS of t := rfl
        omega
      rw [← hcost]
      simp only [beq_self_eq_true, Bool.and_self, Bool.true_and]
      have hsl := sel_len of.length s
      unfold widthR
      by_cases hfar : 1099511627776 ≤ WdS n kn of s a b
      · rw [if_pos hfar]; rfl
      · rw [if_neg hfar]
        simp only [Bool.not_true, Bool.false_or]
        by_cases hlt : p4 < WdS n kn of s a b
        · simp [hlt]
        · simp only [hlt, decide_false, Bool.not_false, Bool.false_or]
          refine bnd (f40_eq _ _ (by omega)) ?_
          have : befL (cS of s) (sel of.length s) (cS of t) (sel of.length t) = false := hleast s hs (by unfold qW; simp; omega)
          rw [this]; rfl
  · rw [if_pos]
    cases hA : askB p0 p1 [p2, p3] with
    | false => rfl
    | true => simp [hA] at hc; simp; omega
end Go.Proofs.Ytkbilbeaedocjaa
