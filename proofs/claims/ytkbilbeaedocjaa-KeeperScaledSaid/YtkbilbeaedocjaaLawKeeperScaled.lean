/-
  What is proved: for every input there is a fuel with which the model of KeeperScaled returns true.
-/
import Derived.Test.YtkbilbeaedocjaaKeepT
import Derived.Test.YtkbilbeaedocjaaModelL
import Derived.Test.YtkbilbeaedocjaaLawKeeperPrices
namespace Go.Proofs.Ytkbilbeaedocjaa
open Go Go.Proofs.Ytkbilbeaedocjaa.Wh
set_option maxRecDepth 100000

theorem loop_wide {n : Nat} {k : Int} {l : List S_api_Offer} (hk : 1 ≤ k) (hk2 : k ≤ 1000) (h : ∀ o ∈ l, okB (n : Int) 0 o = true) (hl : l.length ≤ 4000) :
    (forS 0 (l.length : Int) (([] : List S_api_Offer) : (List S_api_Offer)) fun i_7 s_9 =>
      (idx l i_7) >>= fun v_14 =>
      (app s_9 ([((v_14.1, v_14.2.1, 0, (wr (v_14.2.2.2 * k))) : S_api_Offer)] : List S_api_Offer)) >>= fun z_16 =>
      some z_16) = some (l.map (scW k)) := by
  have := forS_st (N := l.length) (s := ([] : List S_api_Offer)) (f := fun i_7 s_9 =>
      (idx l i_7) >>= fun v_14 =>
      (app s_9 ([((v_14.1, v_14.2.1, 0, (wr (v_14.2.2.2 * k))) : S_api_Offer)] : List S_api_Offer)) >>= fun z_16 =>
      some z_16) (fun j => (l.take j).map (scW k)) rfl (by omega) fun j hj => by
    have h1 := List.getElem?_eq_getElem hj
    have hb := h l[j] (by simp)
    refine bnd (by rw [idx_nat]; exact h1) ?_
    generalize l[j] = o at *
    obtain ⟨oa, ob, oc, ow⟩ := o
    unfold okB at hb
    simp at hb
    have hc := mul_cap (show ow ≤ 7340032 by omega) (show 0 ≤ ow by omega) (show 0 ≤ k by omega) hk2
    have hoc : oc = 0 := by omega
    subst hoc
    show (app ((l.take j).map (scW k)) [((oa, ob, 0, wr (ow * k)) : S_api_Offer)] >>= fun z => some z) = _
    rw [app_one (by rw [List.length_map, List.length_take]; omega), List.take_add_one, h1, List.map_append, wr_id (by omega) (by omega)]
    rfl
  rw [List.take_length] at this
  exact this
theorem loop_both {n : Nat} {k : Int} {l : List S_api_Offer} (hk : 1 ≤ k) (hk2 : k ≤ 1000) (h : ∀ o ∈ l, okB (n : Int) 10000 o = true) (hl : l.length ≤ 4000) :
    (forS 0 (l.length : Int) ((([] : List S_api_Offer), ([] : List S_api_Offer)) : (List S_api_Offer) × (List S_api_Offer)) fun i_19 s_21 =>
      (idx l i_19) >>= fun v_27 =>
      (app s_21.1 ([((v_27.1, v_27.2.1, v_27.2.2.1, (wr (v_27.2.2.2 * k))) : S_api_Offer)] : List S_api_Offer)) >>= fun z_29 =>
      (app s_21.2 ([((v_27.1, v_27.2.1, (wr (v_27.2.2.1 * k)), v_27.2.2.2) : S_api_Offer)] : List S_api_Offer)) >>= fun z_32 =>
      some (z_29, z_32)) = some (l.map (scW k), l.map (scC k)) := by
  have := forS_st (N := l.length) (s := ((([] : List S_api_Offer), ([] : List S_api_Offer)) : (List S_api_Offer) × (List S_api_Offer))) (f := fun i_19 s_21 =>
      (idx l i_19) >>= fun v_27 =>
      (app s_21.1 ([((v_27.1, v_27.2.1, v_27.2.2.1, (wr (v_27.2.2.2 * k))) : S_api_Offer)] : List S_api_Offer)) >>= fun z_29 =>
      (app s_21.2 ([((v_27.1, v_27.2.1, (wr (v_27.2.2.1 * k)), v_27.2.2.2) : S_api_Offer)] : List S_api_Offer)) >>= fun z_32 =>
      some (z_29, z_32)) (fun j => ((l.take j).map (scW k), (l.take j).map (scC k))) rfl (by omega) fun j hj => by
    have h1 := List.getElem?_eq_getElem hj
    have hb := h l[j] (by simp)
    refine bnd (by rw [idx_nat]; exact h1) ?_
    generalize l[j] = o at *
    obtain ⟨oa, ob, oc, ow⟩ := o
    unfold okB at hb
    simp at hb
    have hc := mul_cap (show ow ≤ 7340032 by omega) (show 0 ≤ ow by omega) (show 0 ≤ k by omega) hk2
    have hc2 := mul_cap (show oc ≤ 7340032 by omega) (show 0 ≤ oc by omega) (show 0 ≤ k by omega) hk2
    show (app ((l.take j).map (scW k)) [((oa, ob, oc, wr (ow * k)) : S_api_Offer)] >>= fun z_29 => app ((l.take j).map (scC k)) [((oa, ob, wr (oc * k), ow) : S_api_Offer)] >>= fun z_32 => some (z_29, z_32)) = _
    rw [app_one (by rw [List.length_map, List.length_take]; omega), app_one (by rw [List.length_map, List.length_take]; omega), List.take_add_one, h1, List.map_append, List.map_append, wr_id (by omega) (by omega), wr_id (by omega) (by omega)]
    rfl
  rw [List.take_length] at this
  exact this
theorem sel_zero (k : Nat) : sel k 0 = [] := by unfold sel; simp
section
variable {n : Nat} {kn of : List S_api_Offer} (hm : Ok n kn of)
include hm
theorem Ok.best_at (q : Nat → Bool) : ∃ t, t < 2 ^ of.length ∧ (bestR of q).1 = cst (sel of.length t) := by
  unfold bestR
  cases h : lst (bfS of) q (2 ^ of.length) with
  | none => exact ⟨0, hm.pos, by rw [sel_zero]; rfl⟩
  | some t => exact ⟨t, (best_some h).1, rfl⟩
/-- The second half of the law. -/
theorem Ok.dear {k : Int} (hk : 1 ≤ k) (hk2 : k ≤ 1000) {a b : Nat} (ha : a < n) (hb : b < n) {w : Int} (h0 : 0 ≤ w) (h1 : w ≤ 16777216) {j : Nat} (hj : j < of.length) :
    ((M.f41 (((n : Int), kn, of.map (scC k)) : S_api_Market)) >>= fun v_49 =>
  (guardO (!(v_49 != 0)) (M.f42 1000 (((n : Int), kn, of.map (scC k)) : S_api_Market))) >>= fun v_51 =>
  (if ((v_49 != 0) || (v_51 != 0)) = true then (
  some true)
  else (
  (M.f25 (((n : Int), kn, of.map (scC k)) : S_api_Market) a b w) >>= fun v_53 =>
  (M.f37 ((n : Int), kn, of) (bestR of (qW n kn of a b w)).1) >>= fun v_55 =>
  (M.f37 (((n : Int), kn, of.map (scC k)) : S_api_Market) (bestR of (qW n kn of a b w)).1) >>= fun v_57 =>
  (M.f20 ((n : Int), kn, of) a b w j) >>= fun v_59 =>
  (M.f20 (((n : Int), kn, of.map (scC k)) : S_api_Market) a b w j) >>= fun v_61 =>
  (guardO ((((v_53.2.2 == 0) && (v_55.2 == 0)) && (v_57.2 == 0)) && (v_53.2.1 == (bestR of (qW n kn of a b w)).2.1)) (M.f24 v_53.1 (bestR of (qW n kn of a b w)).1)) >>= fun v_63 =>
  some (((((((((v_53.2.2 == 0) && (v_55.2 == 0)) && (v_57.2 == 0)) && (v_53.2.1 == (bestR of (qW n kn of a b w)).2.1)) && v_63) && (v_57.1 == (wr (k * v_55.1)))) && (v_59.2.2 == v_61.2.2)) && (v_59.2.1 == v_61.2.1)) && (v_61.1 == (wr (k * v_59.1))))))) = some true := by
  have hv := hm.valid
  have hl : (of.map (scC k)).length = of.length := List.length_map _
  refine bnd (f41_eq _) ?_
  cases hv' : validB ((n : Int), kn, of.map (scC k)) with
  | false => rfl
  | true =>
    refine bnd (y := 0) (by rw [f42_eq, hv']; rfl) ?_
    rw [if_neg (by simp)]
    have hd : Ok n kn (of.map (scC k)) := by
      obtain ⟨n', e1, e2⟩ := ok_of hv' (by rw [hl]; exact hm.lo)
      have : n = n' := by have : ((n : Nat) : Int) = (n' : Int) := e1; omega
      subst this
      exact e2
    refine bnd (hd.f25s hv' ha hb h0 h1) ?_
    have eb : bestR (of.map (scC k)) (qW n kn (of.map (scC k)) a b w) = bestR of (qW n kn of a b w) :=
      bestR_congr hl (fun s t _ _ => bfS_scC hm hd hk s t) fun s _ => by unfold qW; rw [wdS_scC]
    rw [eb]
    obtain ⟨t, ht, et⟩ := hm.best_at (qW n kn of a b w)
    have hlen := bestR_len of (qW n kn of a b w)
    have h6 := hm.lo
    have hz : (bestR of (qW n kn of a b w)).2.2 = 0 := by unfold bestR; split <;> rfl
    refine bnd (by rw [et]; exact hm.f37s hv ht) (bnd (by have := hd.f37s (s := t) hv' (by rw [hl]; exact ht); rw [hl] at this; rw [et]; exact this) ?_)
    refine bnd (f20_eq hm ha hb (code_zero hv ha hb h0 h1) j) (bnd (f20_eq hd ha hb (code_zero hv' ha hb h0 h1) j) ?_)
    rw [price_scC hm hd hk hk2 a b w hj]
    refine bnd (y := true) (by rw [hz, f24_eq _ _ (by omega)]; simp [guardO]) ?_
    have c1 := hm.costs (s := t)
    have c2 := hd.costs (s := t)
    rw [cS_scC hm hd] at c2 ⊢
    rw [Int.mul_comm k (cS of t), wr_id (n := cS of t * k) (by omega) (by omega)]
    simp [hz]
end
theorem law_KeeperScaled (p0 : S_api_Market) (p1 : List Int) (p2 p3 p4 p5 p6 : Int) : ∃ fuel, M.f7 fuel p0 p1 p2 p3 p4 p5 p6 = some true := by
  refine ⟨1000, ?_⟩
  unfold M.f7
  refine bnd sane_ok ?_
  simp only [Bool.not_true, Bool.false_eq_true, if_false]
  refine bnd (f31_eq p0 p1 [p2, p3] (by simp)) ?_
  by_cases hc : askB p0 p1 [p2, p3] = true ∧ 0 ≤ p4 ∧ p4 ≤ 16777216 ∧ 1 ≤ p6 ∧ p6 ≤ 1000 ∧ 0 ≤ p5 ∧ p5 < (p0.2.2.length : Int)
  · obtain ⟨ha, h0, h1, hk, hk2, h2, h3⟩ := hc
    rw [if_neg (by rw [ha]; simp; omega)]
    obtain ⟨n, kn, of, s, rfl, hm, hv, hs, rfl, hcl⟩ := ask_cases ha
    simp only [List.all_cons, List.all_nil, Bool.and_true, Bool.and_eq_true] at hcl
    clear ha
    obtain ⟨a, rfl, ha⟩ := clock_nat hcl.1
    obtain ⟨b, rfl, hb⟩ := clock_nat hcl.2
    obtain ⟨j, rfl⟩ : ∃ j : Nat, p5 = (j : Int) := ⟨p5.toNat, by omega⟩
    have hj : j < of.length := by have : (j : Int) < (of.length : Int) := h3; omega
    have hlk := hm.lk; have hlo := hm.lo
    have hd := hm.dear hk hk2 ha hb h0 h1 hj
    refine bnd (loop_wide hk hk2 hm.k (show kn.length ≤ 4000 by omega)) (bnd (loop_both hk hk2 hm.o (show of.length ≤ 4000 by omega)) ?_)
    refine bnd (hm.f25s hv ha hb h0 h1) (bnd (hm.f33s hv hs ha hb) ?_)
    have hz : ∀ W : Int, (widthR W).2.2 = 0 := fun W => by unfold widthR; split <;> rfl
    have hbz : ∀ q, (bestR of q).2.2 = 0 := fun q => by unfold bestR; split <;> rfl
    rw [if_neg (by simp [hz, hbz])]
    refine bnd (f41_eq _) ?_
    cases hv' : validB ((n : Int), kn.map (scW p6), of.map (scW p6)) with
    | false => exact hd
    | true =>
      have hl : (of.map (scW p6)).length = of.length := List.length_map _
      have hw : Ok n (kn.map (scW p6)) (of.map (scW p6)) := by
        obtain ⟨n', e1, e2⟩ := ok_of hv' (by rw [hl]; exact hm.lo)
        have : n = n' := by have : ((n : Nat) : Int) = (n' : Int) := e1; omega
        subst this
        exact e2
      have hW := fun s => wdS_scW hm hw hk hk2 s ha hb
      refine bnd (y := 0) (by rw [f42_eq, hv']; rfl) ?_
      rw [if_pos (by simp)]
      refine bnd (by have := hw.f33s (s := s) hv' (by rw [hl]; exact hs) ha hb; rw [hl] at this; exact this) ?_
      have hcap : WdS n kn of s a b < 1099511627776 → WdS n kn of s a b ≤ 7340032 := wd_cap hm.n8 (hm.all_okB (l := sel of.length s)) ha hb
      have hnn : 0 ≤ WdS n kn of s a b := (wd_cl (hm.all_okB (l := sel of.length s))).nonneg a b ha hb
      have e33 : (widthR (WdS n (kn.map (scW p6)) (of.map (scW p6)) s a b)).2.1 = (widthR (WdS n kn of s a b)).2.1 ∧ (widthR (WdS n (kn.map (scW p6)) (of.map (scW p6)) s a b)).1 = wr ((widthR (WdS n kn of s a b)).1 * p6) := by
        rw [hW s]
        generalize WdS n kn of s a b = W at *
        unfold widthR
        by_cases q : W < 1099511627776
        · have hm2 := mul_cap (hcap q) hnn (show 0 ≤ p6 by omega) hk2
          rw [if_pos q, if_neg (show ¬ 1099511627776 ≤ W by omega), if_neg (show ¬ 1099511627776 ≤ W * p6 by omega)]
          refine ⟨rfl, ?_⟩
          show W * p6 = wr (W * p6)
          rw [wr_id (by omega) (by omega)]
        · rw [if_neg q, if_pos (Int.le_refl (1099511627776 : Int)), if_pos (show 1099511627776 ≤ W by omega)]
          refine ⟨rfl, ?_⟩
          show (0 : Int) = wr (0 * p6)
          rw [Int.zero_mul]; rfl
      rw [if_neg (by rw [hz, e33.1, e33.2]; simp)]
      have hp4 := mul_up h1 (show 0 ≤ p6 by omega)
      have hp40 := Int.mul_nonneg h0 (show 0 ≤ p6 by omega)
      have hwr : wr (p4 * p6) = p4 * p6 := wr_id (by omega) (by omega)
      rw [hwr]
      by_cases hq : p4 * p6 ≤ 16777216
      · rw [if_pos (by simpa using hq)]
        refine bnd (hw.f25s hv' ha hb hp40 hq) ?_
        have eb : bestR (of.map (scW p6)) (qW n (kn.map (scW p6)) (of.map (scW p6)) a b (p4 * p6)) = bestR of (qW n kn of a b p4) :=
          bestR_congr hl (fun s t _ _ => bfS_congr hl cS_scW s t) fun s _ => by
            unfold qW
            rw [hW s]
            apply Bool.eq_iff_iff.2
            rw [decide_eq_true_eq, decide_eq_true_eq]
            split
            · exact mul_iff hk
            · omega
        rw [eb]
        refine bnd (y := true) (by rw [hbz, f24_eq _ _ (by have := bestR_len of (qW n kn of a b p4); omega)]; simp [guardO]) ?_
        rw [if_neg (by simp [hbz])]
        exact hd
      · rw [if_neg (by simpa using hq)]
        exact hd
  · rw [if_pos]
    simp
    rcases Bool.eq_false_or_eq_true (askB p0 p1 [p2, p3]) with h | h
    · have hc' : ¬ (0 ≤ p4 ∧ p4 ≤ 16777216 ∧ 1 ≤ p6 ∧ p6 ≤ 1000 ∧ 0 ≤ p5 ∧ p5 < (p0.2.2.length : Int)) := fun q => hc ⟨h, q⟩
      omega
    · simp [h]
end Go.Proofs.Ytkbilbeaedocjaa
