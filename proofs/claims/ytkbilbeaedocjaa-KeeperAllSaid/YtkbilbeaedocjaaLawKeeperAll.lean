/-
  What is proved: for every input there is a fuel with which the model of KeeperAll returns true.
-/
import Derived.Test.YtkbilbeaedocjaaKeepL
import Derived.Test.YtkbilbeaedocjaaLawKeeperPrices
namespace Go.Proofs.Ytkbilbeaedocjaa
open Go Go.Proofs.Ytkbilbeaedocjaa.Wh
set_option maxRecDepth 100000

theorem lst_ext {bf : Nat → Nat → Bool} {q q' : Nat → Bool} {N : Nat} (h : ∀ s, s < N → q s = q' s) : lst bf q N = lst bf q' N := (lst_congr h (fun _ _ _ _ => rfl)).1
section
variable {n : Nat} {kn of : List S_api_Offer} (hm : Ok n kn of)
include hm
theorem tog_far (s : Nat) : togB n kn of 1099511627775 s = togB n kn of 16777216 s := by
  apply Bool.eq_iff_iff.2
  rw [togB_iff, togB_iff]
  constructor
  · intro h a b ha hb
    have := h a b ha hb
    have := hm.range s ha hb
    omega
  · intro h a b ha hb
    have := h a b ha hb
    omega
/-- The tree has fewer offers than there are clocks. -/
theorem tree_few {t : Nat} (h : lst (bfS of) (togB n kn of 1099511627775) (2 ^ of.length) = some t) : (sel of.length t).length < n := by
  obtain ⟨ht, hq, hleast⟩ := best_some h
  have hall := togB_iff.1 hq
  refine few_offers hm ht (fun a b ha hb => by have := hall a b ha hb; unfold Con; omega) fun i hi => ?_
  -- if all were connected without i, that would be less
  have hi' : i < of.length := by
    rcases Nat.lt_or_ge i of.length with q | q
    · exact q
    · rw [Nat.testBit_lt_two_pow (Nat.lt_of_lt_of_le ht (Nat.pow_le_pow_right (by decide) q))] at hi; cases hi
  apply Classical.byContradiction
  intro hno
  -- the set without i
  have hbits : ∀ k, (bset ((sel of.length t).filter (fun k => decide (k ≠ i)))).testBit k = (t.testBit k && decide (k ≠ i)) := by
    intro k
    rw [bset_bit]
    apply Bool.eq_iff_iff.2
    rw [decide_eq_true_eq, List.mem_filter, mem_sel, Bool.and_eq_true]
    constructor
    · rintro ⟨⟨_, h1⟩, h2⟩; exact ⟨h1, h2⟩
    · rintro ⟨h1, h2⟩
      refine ⟨⟨?_, h1⟩, h2⟩
      rcases Nat.lt_or_ge k of.length with q | q
      · exact q
      · rw [Nat.testBit_lt_two_pow (Nat.lt_of_lt_of_le ht (Nat.pow_le_pow_right (by decide) q))] at h1; cases h1
  have hu : bset ((sel of.length t).filter (fun k => decide (k ≠ i))) < 2 ^ of.length := bset_lt fun k hk => (mem_sel.1 (List.mem_filter.1 hk).1).1
  have hsel : sel of.length (bset ((sel of.length t).filter (fun k => decide (k ≠ i)))) = (sel of.length t).filter (fun k => decide (k ≠ i)) := sel_bset ((sel_incr _ _).filter _) (fun k hk => (mem_sel.1 (List.mem_filter.1 hk).1).1)
  generalize bset ((sel of.length t).filter (fun k => decide (k ≠ i))) = u at hbits hu hsel
  have huniq : ∀ v, v < 2 ^ of.length → (∀ k, v.testBit k = (t.testBit k && decide (k ≠ i))) → v = u := fun v _ h => Nat.eq_of_testBit_eq fun k => by rw [h, hbits]
  have hcon : togB n kn of 1099511627775 u = true := by
    rw [togB_iff]
    intro a b ha hb
    rcases Int.lt_or_le 1099511627775 (WdS n kn of u a b) with q | q
    · exfalso
      refine hno ⟨a, b, ha, hb, fun v hv hvb => ?_⟩
      rw [huniq v hv hvb]
      unfold Con; omega
    · exact q
  have hnb := hleast u hu hcon
  have hc := hm.cost_sub (s := u) (t := t) (fun k hk => by rw [hbits, Bool.and_eq_true] at hk; exact hk.1)
  have hl : (sel of.length u).length < (sel of.length t).length := by
    rw [hsel]
    have hmem : i ∈ sel of.length t := mem_sel.2 ⟨hi', hi⟩
    refine List.length_filter_lt_length_iff_exists.2 ⟨i, hmem, by simp⟩
  unfold bfS at hnb
  rw [← Bool.not_eq_true, befL_iff] at hnb
  omega
end
theorem law_KeeperAll (p0 : S_api_Market) (p1 p2 p3 : Int) : ∃ fuel, M.f9 fuel p0 p1 p2 p3 = some true := by
  refine ⟨1000, ?_⟩
  unfold M.f9
  refine bnd sane_ok ?_
  simp only [Bool.not_true, Bool.false_eq_true, if_false]
  refine bnd (f31_eq p0 [] [p1, p2] (by simp)) ?_
  by_cases hc : askB p0 [] [p1, p2] = true ∧ 0 ≤ p3 ∧ p3 ≤ 16777216
  · obtain ⟨ha, h0, h1⟩ := hc
    rw [if_neg (by rw [ha]; simp; omega)]
    obtain ⟨n, kn, of, _, rfl, hm, hv, _, _, hcl⟩ := ask_cases ha
    simp only [List.all_cons, List.all_nil, Bool.and_true, Bool.and_eq_true] at hcl
    clear ha
    obtain ⟨a, rfl, ha⟩ := clock_nat hcl.1
    obtain ⟨b, rfl, hb⟩ := clock_nat hcl.2
    have h6 := hm.lo
    have e11 : bestR of (togB n kn of 16777216) = bestR of (togB n kn of 1099511627775) := by
      unfold bestR
      rw [lst_ext (q := togB n kn of 16777216) (q' := togB n kn of 1099511627775) fun s _ => (tog_far hm s).symm]
    refine bnd (hm.f27s hv h0 h1) (bnd (hm.f25s hv ha hb h0 h1) (bnd (hm.f29 hv) (bnd ((hm.f27s hv (by omega) (by omega)).trans (by rw [e11])) ?_)))
    have z : ∀ q, (bestR of q).2.2 = 0 := fun q => by unfold bestR; cases lst (bfS of) q (2 ^ of.length) <;> rfl
    simp only [z, bne_self_eq_false, Bool.or_self, Bool.not_false, guardO, Bool.false_or]
    refine bnd (f24_same _ (Nat.le_trans (bestR_len _ _) (by omega))) ?_
    -- the tests
    have hlen : (bestR of (togB n kn of 1099511627775)).1.length < n := by
      have h2 := hm.n2
      unfold bestR
      cases hl : lst (bfS of) (togB n kn of 1099511627775) (2 ^ of.length) with
      | none => show 0 < n; omega
      | some t => simp only [cst_length]; exact tree_few hm hl
    have hlen' : ¬ ((n : Int) ≤ ((bestR of (togB n kn of 1099511627775)).1.length : Int)) := by omega
    cases hT : lst (bfS of) (togB n kn of p3) (2 ^ of.length) with
    | none =>
      have eT : bestR of (togB n kn of p3) = ([], false, 0) := by unfold bestR; rw [hT]
      rw [eT]
      simp only [Bool.not_true, Bool.false_and, Bool.or_false, Bool.false_or, hlen', decide_false, Bool.false_eq_true, if_false, Bool.not_false, if_true]
      rfl
    | some t =>
      obtain ⟨ht, hq, hleast⟩ := best_some hT
      have hall := togB_iff.1 hq
      have eT : bestR of (togB n kn of p3) = (cst (sel of.length t), true, 0) := by unfold bestR; rw [hT]
      -- Best and Tree are there
      have hqw : qW n kn of a b p3 t = true := by unfold qW; simpa using hall a b ha hb
      have hqt : togB n kn of 1099511627775 t = true := by
        rw [togB_iff]; intro x y hx hy; have := hall x y hx hy; omega
      obtain ⟨u, hu⟩ : ∃ u, lst (bfS of) (qW n kn of a b p3) (2 ^ of.length) = some u := by
        cases hl : lst (bfS of) (qW n kn of a b p3) (2 ^ of.length) with
        | none => have := best_none hl t ht; rw [hqw] at this; cases this
        | some u => exact ⟨u, rfl⟩
      obtain ⟨v, hv'⟩ : ∃ v, lst (bfS of) (togB n kn of 1099511627775) (2 ^ of.length) = some v := by
        cases hl : lst (bfS of) (togB n kn of 1099511627775) (2 ^ of.length) with
        | none => have := best_none hl t ht; rw [hqt] at this; cases this
        | some v => exact ⟨v, rfl⟩
      have eB : bestR of (qW n kn of a b p3) = (cst (sel of.length u), true, 0) := by unfold bestR; rw [hu]
      have eR : bestR of (togB n kn of 1099511627775) = (cst (sel of.length v), true, 0) := by unfold bestR; rw [hv']
      obtain ⟨hu1, _, hu3⟩ := best_some hu
      obtain ⟨hv1, _, hv3⟩ := best_some hv'
      rw [eR] at hlen'
      rw [eT, eB, eR]
      simp only [Bool.not_true, Bool.and_false, Bool.or_false, Bool.false_or, hlen', decide_false, Bool.false_eq_true, if_false, bne_self_eq_false, Bool.or_self]
      refine bnd (hm.f37s hv ht) (bnd (hm.f37s hv hu1) (bnd (hm.f37s hv hv1) (bnd (hm.f33s hv ht ha hb) ?_)))
      have c1 := bfS_cost (hu3 t ht hqw)
      have c2 := bfS_cost (hv3 t ht hqt)
      have c3 := hall a b ha hb
      have hwt : widthR (WdS n kn of t a b) = (WdS n kn of t a b, true, 0) := by unfold widthR; rw [if_neg (by omega)]
      rw [hwt]
      simp [c1, c2, c3]
  · rw [if_pos]
    cases hA : askB p0 [] [p1, p2] with
    | false => rfl
    | true => simp [hA] at hc; simp; omega
end Go.Proofs.Ytkbilbeaedocjaa
