/-
  What is proved: for every input there is a fuel with which the model of KeeperWorth returns true.
-/
import Derived.Test.YtkbilbeaedocjaaKeepK
import Derived.Test.YtkbilbeaedocjaaLawKeeperPrices
namespace Go.Proofs.Ytkbilbeaedocjaa
open Go Go.Proofs.Ytkbilbeaedocjaa.Wh
set_option maxRecDepth 100000

theorem f50_eq (l : List Int) (x : Int) (hl : l.length ≤ 4096) : M.f50 l x = some (l.any fun y => x == y) := by
  unfold M.f50 M.f100
  refine bnd (y := idxF (fun y => x == y) l) (bnd (forM_idx l (fun y => x == y) (by omega) fun j y hy => ?_) ?_) ?_
  · rw [idx_nat, hy]
    simp only [Option.bind_eq_bind, Option.bind_some]
    split <;> rfl
  · unfold idxF
    cases l.findIdx? (fun y => x == y) <;> rfl
  · rw [idxF_any]
theorem any_cst {l : List Nat} {k : Nat} : ((cst l).any fun y => (k : Int) == y) = decide (k ∈ l) := by
  apply Bool.eq_iff_iff.2
  unfold cst
  simp only [List.any_map, List.any_eq_true, Function.comp, beq_iff_eq, decide_eq_true_eq]
  constructor
  · rintro ⟨y, hy, e⟩
    have : k = y := by omega
    subst this; exact hy
  · intro h; exact ⟨k, h, rfl⟩
theorem all_bits {k i : Nat} : (2 ^ k - 1).testBit i = decide (i < k) := Nat.testBit_two_pow_sub_one k i
theorem sub_all {k s : Nat} (h : s < 2 ^ k) : Sub s (2 ^ k - 1) := by
  intro i hi
  rw [all_bits, decide_eq_true_eq]
  rcases Nat.lt_or_ge i k with q | q
  · exact q
  · rw [Nat.testBit_lt_two_pow (Nat.lt_of_lt_of_le h (Nat.pow_le_pow_right (by decide) q))] at hi; cases hi
/-- All but one. -/
theorem but_bits {k j i : Nat} (hj : j < k) : (2 ^ k - 1 - 2 ^ j).testBit i = (decide (i < k) && decide (i ≠ j)) := by
  have h1 : 2 ^ (j + 1) ≤ 2 ^ k := Nat.pow_le_pow_right (by decide) (by omega)
  have e : 2 ^ k - 1 - 2 ^ j = 2 ^ (j + 1) * (2 ^ (k - (j + 1)) - 1) + (2 ^ j - 1) := by
    have h2 : 2 ^ (j + 1) * 2 ^ (k - (j + 1)) = 2 ^ k := by rw [← Nat.pow_add]; congr 1; omega
    have h3 : 2 ^ (j + 1) = 2 * 2 ^ j := by rw [Nat.pow_succ]; omega
    have h4 : 0 < 2 ^ j := Nat.pow_pos (by decide)
    rw [Nat.mul_sub, h2]
    omega
  have hlt : 2 ^ j - 1 < 2 ^ (j + 1) := by
    have h3 : 2 ^ (j + 1) = 2 * 2 ^ j := by rw [Nat.pow_succ]; omega
    have h4 : 0 < 2 ^ j := Nat.pow_pos (by decide)
    omega
  rw [e, Nat.testBit_two_pow_mul_add _ hlt]
  by_cases q : i < j + 1
  · rw [if_pos q, all_bits]
    apply Bool.eq_iff_iff.2
    simp
    omega
  · rw [if_neg q, all_bits]
    apply Bool.eq_iff_iff.2
    simp
    omega
theorem mem_needL {n : Nat} {kn of : List S_api_Offer} {a b : Nat} {w : Int} {j i : Nat} : i ∈ needL n kn of a b w j ↔ i < j ∧ ¬ WdS n kn of (2 ^ of.length - 1 - 2 ^ i) a b ≤ w := by
  unfold needL
  rw [List.mem_filter, List.mem_range]
  simp
theorem law_KeeperWorth (p0 : S_api_Market) (p1 p2 p3 p4 : Int) : ∃ fuel, M.f10 fuel p0 p1 p2 p3 p4 = some true := by
  refine ⟨1000, ?_⟩
  unfold M.f10
  refine bnd sane_ok ?_
  simp only [Bool.not_true, Bool.false_eq_true, if_false]
  refine bnd (f31_eq p0 [] [p1, p2] (by simp)) ?_
  by_cases hc : askB p0 [] [p1, p2] = true ∧ 0 ≤ p3 ∧ p3 ≤ 16777216 ∧ 0 ≤ p4 ∧ p4 < (p0.2.2.length : Int)
  · obtain ⟨ha, h0, h1, h2, h3⟩ := hc
    rw [if_neg (by rw [ha]; simp; omega)]
    obtain ⟨n, kn, of, _, rfl, hm, hv, _, _, hcl⟩ := ask_cases ha
    simp only [List.all_cons, List.all_nil, Bool.and_true, Bool.and_eq_true] at hcl
    clear ha
    obtain ⟨a, rfl, ha⟩ := clock_nat hcl.1
    obtain ⟨b, rfl, hb⟩ := clock_nat hcl.2
    have hp := hm.pos
    have hp2 := hm.pow
    have h6 := hm.lo
    have hcode := code_zero hv ha hb h0 h1
    obtain ⟨k, rfl⟩ : ∃ k : Nat, p4 = (k : Int) := ⟨p4.toNat, by omega⟩
    have hk : k < of.length := by have : (k : Int) < (of.length : Int) := h3; omega
    refine bnd (hm.f25s hv ha hb h0 h1) (bnd (f18_eq hm ha hb hcode) (bnd (f20_eq hm ha hb hcode k) ?_))
    unfold bestR
    cases hl : lst (bfS of) (qW n kn of a b p3) (2 ^ of.length) with
    | none =>
      have hno := best_none hl
      have hall : ¬ WdS n kn of (2 ^ of.length - 1) a b ≤ p3 := by
        have := hno (2 ^ of.length - 1) (by omega)
        unfold qW at this; simpa using this
      simp only [bne_self_eq_false, Bool.false_eq_true, if_false, Bool.not_false, if_true]
      unfold needR priceR
      rw [if_neg hall, if_pos ⟨by omega, by omega⟩, if_neg hall]
      rfl
    | some t =>
      obtain ⟨ht, hq, hleast⟩ := best_some hl
      have hqt : WdS n kn of t a b ≤ p3 := by unfold qW at hq; simpa using hq
      have hall : WdS n kn of (2 ^ of.length - 1) a b ≤ p3 := Int.le_trans (hm.mono (sub_all ht) ha hb) hqt
      simp only [bne_self_eq_false, Bool.false_eq_true, if_false, Bool.not_true]
      have hsl := sel_len of.length t
      refine bnd (f50_eq _ _ (by rw [cst_length]; omega)) ?_
      unfold needR
      rw [if_pos hall]
      have hnl := needL_len (n := n) (kn := kn) (of := of) (a := a) (b := b) (w := p3) of.length
      refine bnd (y := decide (k ∈ needL n kn of a b p3 of.length)) ?_ ?_
      · unfold priceR
        rw [if_pos ⟨by omega, by omega⟩, if_pos hall]
        have : ∀ z : Int × Bool × Int, z.2.2 = 0 → guardO (!(((0 : Int) != 0) || (z.2.2 != 0))) (M.f50 (cst (needL n kn of a b p3 of.length)) k) = some (decide (k ∈ needL n kn of a b p3 of.length)) := by
          intro z hz
          rw [hz, f50_eq _ _ (by rw [cst_length]; omega), any_cst]
          rfl
        split
        · exact this (0, false, 0) rfl
        · exact this (_, true, 0) rfl
      · rw [any_cst]
        -- the price
        have hoff : 1099511627776 ≤ mc of (qOff n kn of a b p3 k) (2 ^ of.length) ↔ k ∈ needL n kn of a b p3 of.length := by
          rw [mem_needL]
          constructor
          · intro h
            refine ⟨hk, fun hle => ?_⟩
            have hlt : 2 ^ of.length - 1 - 2 ^ k < 2 ^ of.length := Nat.lt_of_le_of_lt (Nat.sub_le _ _) (Nat.sub_lt hp (by decide))
            have := mc_le (of := of) (q := qOff n kn of a b p3 k) hlt (by
              unfold qOff
              rw [but_bits hk]
              simp [hle])
            have := (hm.costs (s := 2 ^ of.length - 1 - 2 ^ k)).2
            omega
          · rintro ⟨_, h⟩
            rcases Int.lt_or_le (mc of (qOff n kn of a b p3 k) (2 ^ of.length)) 1099511627776 with hlt | hge
            · exfalso
              obtain ⟨s, hs, hqs, _⟩ := mc_at hlt
              unfold qOff at hqs
              simp only [Bool.and_eq_true, Bool.not_eq_true', decide_eq_true_eq] at hqs
              refine h (Int.le_trans (hm.mono (s := s) (fun i hi => ?_) ha hb) hqs.2)
              rw [but_bits hk]
              have h1 := sub_all hs i hi
              rw [all_bits] at h1
              have h2 : i ≠ k := fun e => by subst e; rw [hqs.1] at hi; cases hi
              simp [h2]; simpa using h1
            · exact hge
        have hin : decide (k ∈ sel of.length t) = t.testBit k := by
          apply Bool.eq_iff_iff.2
          rw [decide_eq_true_eq, mem_sel]; simp [hk]
        rw [hin]
        have hpr : priceR n kn of a b p3 k = if 1099511627776 ≤ mc of (qOff n kn of a b p3 k) (2 ^ of.length) then (0, false, 0) else (wr (mc of (qOff n kn of a b p3 k) (2 ^ of.length) - mc of (qOn n kn of a b p3 k) (2 ^ of.length)), true, 0) := by
          unfold priceR
          rw [if_pos ⟨by omega, by omega⟩, if_pos hall, Int.toNat_natCast]
        rw [hpr]
        have hon : t.testBit k = true → mc of (qOn n kn of a b p3 k) (2 ^ of.length) ≤ cS of t := fun h => mc_le ht (by unfold qOn; simp [h, hqt])
        have hof : t.testBit k = false → mc of (qOff n kn of a b p3 k) (2 ^ of.length) ≤ cS of t := fun h => mc_le ht (by unfold qOff; simp [h, hqt])
        have hon2 : mc of (qOn n kn of a b p3 k) (2 ^ of.length) < 1099511627776 → cS of t ≤ mc of (qOn n kn of a b p3 k) (2 ^ of.length) := fun h => by
          obtain ⟨s, hs, hqs, e⟩ := mc_at h
          rw [e]
          refine bfS_cost (hleast s hs ?_)
          unfold qOn at hqs; unfold qW
          simp only [Bool.and_eq_true] at hqs
          exact hqs.2
        have hof2 : mc of (qOff n kn of a b p3 k) (2 ^ of.length) < 1099511627776 → cS of t ≤ mc of (qOff n kn of a b p3 k) (2 ^ of.length) := fun h => by
          obtain ⟨s, hs, hqs, e⟩ := mc_at h
          rw [e]
          refine bfS_cost (hleast s hs ?_)
          unfold qOff at hqs; unfold qW
          simp only [Bool.and_eq_true] at hqs
          exact hqs.2
        have hct := hm.costs (s := t)
        have hallon : mc of (qOn n kn of a b p3 k) (2 ^ of.length) ≤ 60000 := by
          have h1 := mc_le (of := of) (q := qOn n kn of a b p3 k) (s := 2 ^ of.length - 1) (N := 2 ^ of.length) (by omega) (by unfold qOn; rw [all_bits]; simp [hk, hall])
          have := (hm.costs (s := 2 ^ of.length - 1)).2
          omega
        have hlast : ((M.f37 ((n : Int), kn, of) (cst (sel of.length t))) >>= fun v_15 => (M.f22 ((n : Int), kn, of) a b v_15.1) >>= fun v_17 =>
            (if ((((v_15.2 != 0) || (v_17.2.2 != 0)) || (!v_17.2.1)) || (decide (p3 < v_17.1))) = true then (some false) else (
              (if (v_15.1 == 0) = true then (some true) else (
              (M.f22 ((n : Int), kn, of) a b (wr (v_15.1 - 1))) >>= fun v_19 => some ((v_19.2.2 == 0) && ((!v_19.2.1) || (decide (p3 < v_19.1)))))))) : Option Bool) = some true := by
          refine bnd (hm.f37s hv ht) ?_
          refine bnd (f22_eq hm ha hb (code_zero hv ha hb hct.1 (by omega))) ?_
          have e1 : leastR n kn of a b (cS of t) = (lwS n kn of a b (cS of t) (2 ^ of.length), true, 0) := by
            have h1 := lw_le (n := n) (kn := kn) (of := of) (a := a) (b := b) (c := cS of t) ht (Int.le_refl _)
            unfold leastR
            rw [if_neg]
            · rfl
            · show ¬ 1099511627776 ≤ lwS n kn of a b (cS of t) (2 ^ of.length)
              omega
          have e2 : ¬ p3 < lwS n kn of a b (cS of t) (2 ^ of.length) := by
            have h1 := lw_le (n := n) (kn := kn) (of := of) (a := a) (b := b) (c := cS of t) ht (Int.le_refl _)
            omega
          rw [e1]
          simp only [bne_self_eq_false, Bool.or_self, Bool.not_true, Bool.false_or, e2, decide_false, Bool.false_eq_true, if_false]
          by_cases hz : cS of t = 0
          · rw [if_pos (by simpa using hz)]
          · rw [if_neg (by simpa using hz), wr_id (by omega) (by omega)]
            refine bnd (f22_eq hm ha hb (code_zero hv ha hb (by omega) (by omega))) ?_
            unfold leastR
            split
            · rfl
            · rename_i hlt
              have hlt' : lwS n kn of a b (cS of t - 1) (2 ^ of.length) < 1099511627776 := by
                show itr (leastG n kn of a b (cS of t - 1)) (2 ^ of.length) 1099511627776 < 1099511627776
                omega
              obtain ⟨s, hs, hcs, e⟩ := lw_at hlt'
              have : p3 < lwS n kn of a b (cS of t - 1) (2 ^ of.length) := by
                rcases Int.lt_or_le p3 (lwS n kn of a b (cS of t - 1) (2 ^ of.length)) with q | q
                · exact q
                · exfalso
                  have := bfS_cost (hleast s hs (by unfold qW; rw [← e]; simpa using q))
                  omega
              simp only [beq_self_eq_true, Bool.not_true, Bool.false_or, Bool.true_and]
              congr 1
              exact decide_eq_true this
        by_cases hin' : k ∈ needL n kn of a b p3 of.length
        · have hbig := hoff.2 hin'
          rw [if_pos hbig]
          have htb : t.testBit k = true := by
            cases h : t.testBit k with
            | true => rfl
            | false => have := hof h; omega
          rw [htb]
          simp only [hin', decide_true, bne_self_eq_false, Bool.or_self, Bool.false_or, Bool.not_true, Bool.and_false, Bool.not_false, Bool.true_and, Bool.false_and, Bool.or_false]
          exact hlast
        · have hsm : ¬ 1099511627776 ≤ mc of (qOff n kn of a b p3 k) (2 ^ of.length) := fun h => hin' (hoff.1 h)
          rw [if_neg hsm]
          have q1 := hof2 (by omega)
          have q2 := hon2 (by omega)
          have q3 : mc of (qOn n kn of a b p3 k) (2 ^ of.length) ≤ 60000 := hallon
          have q4 : mc of (qOff n kn of a b p3 k) (2 ^ of.length) < 1099511627776 := by omega
          rw [wr_id (by omega) (by omega)]
          cases htb : t.testBit k with
          | true =>
            have q5 := hon htb
            have q6 : ¬ (mc of (qOff n kn of a b p3 k) (2 ^ of.length) - mc of (qOn n kn of a b p3 k) (2 ^ of.length) < 0) := by omega
            simp only [hin', decide_false, bne_self_eq_false, Bool.or_self, Bool.false_or, Bool.not_true, Bool.and_false, Bool.not_false, Bool.true_and, Bool.false_and, Bool.or_false, q6, Bool.false_eq_true, if_false, show (false == true) = false from rfl]
            exact hlast
          | false =>
            have q5 := hof htb
            have q6 : ¬ (0 < mc of (qOff n kn of a b p3 k) (2 ^ of.length) - mc of (qOn n kn of a b p3 k) (2 ^ of.length)) := by omega
            simp only [hin', decide_false, bne_self_eq_false, Bool.or_self, Bool.false_or, Bool.not_true, Bool.and_false, Bool.not_false, Bool.true_and, Bool.false_and, Bool.or_false, q6, Bool.false_eq_true, if_false, show (false == true) = false from rfl]
            exact hlast
  · rw [if_pos]
    cases hA : askB p0 [] [p1, p2] with
    | false => rfl
    | true => simp [hA] at hc; simp; omega
end Go.Proofs.Ytkbilbeaedocjaa
