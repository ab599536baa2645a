/-
  What is proved: for every input there is a fuel with which the model of KeeperNamed returns true.
-/
import Derived.Test.YtkbilbeaedocjaaKeepS
import Derived.Test.YtkbilbeaedocjaaKeepM
import Derived.Test.YtkbilbeaedocjaaModelJ
import Derived.Test.YtkbilbeaedocjaaLawKeeperPrices
namespace Go.Proofs.Ytkbilbeaedocjaa
open Go Go.Proofs.Ytkbilbeaedocjaa.Wh
set_option maxRecDepth 100000

theorem f91_eq (c x y : Nat) : M.f91 (c : Int) x y = some ((sw x y c : Nat) : Int) := by
  unfold M.f91 sw
  by_cases h1 : c = x
  · rw [if_pos (by simp; omega), if_pos h1]
  · rw [if_neg (by simp; omega), if_neg h1]
    by_cases h2 : c = y
    · rw [if_pos (by simp; omega), if_pos h2]
    · rw [if_neg (by simp; omega), if_neg h2]
theorem rn_loop {n x y : Nat} {c : Int} {l : List S_api_Offer} (h : ∀ o ∈ l, okB (n : Int) c o = true) (hl : l.length ≤ 4000) :
    (forS 0 (l.length : Int) (([] : List S_api_Offer) : (List S_api_Offer)) fun i_3 s_5 =>
      (idx l i_3) >>= fun v_10 =>
      (((fun x0 => M.f91 x0 (x : Int) (y : Int)) : (Int → Option Int)) v_10.1) >>= fun v_12 =>
      (((fun x0 => M.f91 x0 (x : Int) (y : Int)) : (Int → Option Int)) v_10.2.1) >>= fun v_14 =>
      (app s_5 ([((v_12, v_14, v_10.2.2.1, v_10.2.2.2) : S_api_Offer)] : List S_api_Offer)) >>= fun z_16 =>
      some z_16) = some (l.map (rn x y)) := by
  have := forS_st (N := l.length) (s := ([] : List S_api_Offer)) (f := fun i_3 s_5 =>
      (idx l i_3) >>= fun v_10 =>
      (((fun x0 => M.f91 x0 (x : Int) (y : Int)) : (Int → Option Int)) v_10.1) >>= fun v_12 =>
      (((fun x0 => M.f91 x0 (x : Int) (y : Int)) : (Int → Option Int)) v_10.2.1) >>= fun v_14 =>
      (app s_5 ([((v_12, v_14, v_10.2.2.1, v_10.2.2.2) : S_api_Offer)] : List S_api_Offer)) >>= fun z_16 =>
      some z_16) (fun j => (l.take j).map (rn x y)) rfl (by omega) fun j hj => by
    have h1 := List.getElem?_eq_getElem hj
    have hk := h l[j] (by simp)
    refine bnd (by rw [idx_nat]; exact h1) ?_
    generalize l[j] = o at *
    obtain ⟨oa, ob, oc, ow⟩ := o
    unfold okB at hk
    simp at hk
    obtain ⟨u, rfl⟩ : ∃ u : Nat, oa = (u : Int) := ⟨oa.toNat, by omega⟩
    obtain ⟨v, rfl⟩ : ∃ v : Nat, ob = (v : Int) := ⟨ob.toNat, by omega⟩
    refine bnd (f91_eq u x y) (bnd (f91_eq v x y) ?_)
    rw [app_one (by rw [List.length_map, List.length_take]; omega), List.take_add_one, h1, List.map_append]
    rfl
  rw [List.take_length] at this
  exact this
theorem f32_eq {n : Nat} {kn of : List S_api_Offer} (hm : Ok n kn of) (x y : Nat) : M.f32 ((n : Int), kn, of) x y = some ((n : Int), kn.map (rn x y), of.map (rn x y)) := by
  have h6 := hm.lo; have hk := hm.lk
  unfold M.f32
  exact bnd (rn_loop hm.k (show kn.length ≤ 4000 by omega)) (bnd (rn_loop hm.o (show of.length ≤ 4000 by omega)) rfl)
theorem law_KeeperNamed (p0 : S_api_Market) (p1 : List Int) (p2 p3 p4 p5 : Int) : ∃ fuel, M.f5 fuel p0 p1 p2 p3 p4 p5 = some true := by
  refine ⟨1000, ?_⟩
  unfold M.f5
  refine bnd sane_ok ?_
  simp only [Bool.not_true, Bool.false_eq_true, if_false]
  refine bnd (f31_eq p0 p1 [p2, p3, p4] (by simp)) ?_
  by_cases hc : askB p0 p1 [p2, p3, p4] = true ∧ 0 ≤ p5 ∧ p5 ≤ 16777216 ∧ p2 ≠ p3 ∧ p4 ≠ p3
  · obtain ⟨ha, h0, h1, h2, h3⟩ := hc
    rw [if_neg (by rw [ha]; simp; omega)]
    obtain ⟨n, kn, of, s, rfl, hm, hv, hs, rfl, hcl⟩ := ask_cases ha
    simp only [List.all_cons, List.all_nil, Bool.and_true, Bool.and_eq_true] at hcl
    clear ha
    obtain ⟨x, rfl, hx⟩ := clock_nat hcl.1
    obtain ⟨y, rfl, hy⟩ := clock_nat hcl.2.1
    obtain ⟨b, rfl, hb⟩ := clock_nat hcl.2.2
    have hxy : x ≠ y := by omega
    have hby : b ≠ y := by omega
    have hm' := hm.swapped hx hy
    have hv' := hm'.valid
    have h8 := hm.n8
    have hl : (of.map (rn x y)).length = of.length := List.length_map _
    have hW := fun s {a b : Nat} (ha : a < n) (hb : b < n) => hm.wdS_rn hx hy s ha hb
    have hcs : ∀ s, cS (of.map (rn x y)) s = cS of s := fun s => cS_rn x y s
    have exy : sw x y x = y := by unfold sw; rw [if_pos rfl]
    have htb : sw x y b < n := sw_lt hx hy hb
    have hWxb : ∀ s, WdS n (kn.map (rn x y)) (of.map (rn x y)) s y (sw x y b) = WdS n kn of s x b := fun s => by rw [← hW s hx hb, exy]
    refine bnd (f32_eq hm x y) (bnd (y := ((sw x y b : Nat) : Int)) ?_ ?_)
    · unfold sw
      by_cases q : b = x
      · rw [if_pos (by simp; omega), if_pos q]
      · rw [if_neg (by simp; omega), if_neg q, if_neg hby]
    refine bnd (hm.f33s hv hs hx hb) (bnd (by have := hm'.f33s (s := s) hv' (by rw [hl]; exact hs) hy htb; rw [hl] at this; exact this) ?_)
    rw [hWxb s]
    have hz : ∀ W : Int, (widthR W).2.2 = 0 := fun W => by unfold widthR; split <;> rfl
    rw [if_neg (by simp [hz])]
    refine bnd (hm.f25s hv hx hb h0 h1) (bnd (hm'.f25s hv' hy htb h0 h1) ?_)
    have eb : bestR (of.map (rn x y)) (qW n (kn.map (rn x y)) (of.map (rn x y)) y (sw x y b) p5) = bestR of (qW n kn of x b p5) :=
      bestR_congr hl (fun s t _ _ => bfS_congr hl hcs s t) fun s _ => by unfold qW; rw [hWxb s]
    rw [eb]
    have hbz : ∀ q, (bestR of q).2.2 = 0 := fun q => by unfold bestR; split <;> rfl
    have hbl : ∀ q, (bestR of q).1.length ≤ 4096 := fun q => by have := bestR_len of q; have := hm.lo; omega
    refine bnd (y := true) (by rw [hbz, f24_eq _ _ (hbl _)]; simp [guardO]) ?_
    rw [if_neg (by simp [hbz])]
    refine bnd (hm.f27s hv h0 h1) (bnd (hm'.f27s hv' h0 h1) ?_)
    have et : bestR (of.map (rn x y)) (togB n (kn.map (rn x y)) (of.map (rn x y)) p5) = bestR of (togB n kn of p5) :=
      bestR_congr hl (fun s t _ _ => bfS_congr hl hcs s t) fun s _ => by
        apply Bool.eq_iff_iff.2
        rw [togB_iff, togB_iff]
        constructor
        · intro h a b ha hb
          rw [← hW s ha hb]; exact h _ _ (sw_lt hx hy ha) (sw_lt hx hy hb)
        · intro h a b ha hb
          have := h _ _ (sw_lt hx hy ha) (sw_lt hx hy hb)
          rw [← hW s (sw_lt hx hy ha) (sw_lt hx hy hb), sw_sw, sw_sw] at this
          exact this
    rw [et]
    refine bnd (y := true) (by rw [hbz, f24_eq _ _ (hbl _)]; simp [guardO]) ?_
    rw [if_neg (by simp [hbz])]
    have hlast : ((M.f34 ((n : Int), kn, of) (x : Int)) >>= fun v_29 =>
        (M.f34 ((n : Int), kn.map (rn x y), of.map (rn x y)) (y : Int)) >>= fun v_31 =>
        (if ((((v_29.2 != 0) || (v_31.2 != 0)) || ((v_29.1.length : Int) != (n : Int))) || ((v_31.1.length : Int) != (n : Int))) = true then (
        some false)
        else (
        (M.f35 v_31.1) >>= fun m_33 =>
        (idx m_33 (y : Int)) >>= fun v_37 =>
        (idx m_33 (x : Int)) >>= fun v_39 =>
        (idx m_33 (x : Int)) >>= fun v_41 =>
        (set1 m_33 (x : Int) v_37) >>= fun z_43 =>
        (idx z_43 (y : Int)) >>= fun v_45 =>
        (set1 z_43 (y : Int) v_39) >>= fun z_47 =>
        (M.f36 1000 v_29.1 z_47) >>= fun v_49 =>
        some v_49))) = some true := by
      refine bnd (hm.f34s hv hx) (bnd (hm'.f34s hv' hy) ?_)
      rw [if_neg (by simp [tab_len])]
      refine bnd (y := tab n (frontS n (kn.map (rn x y)) (of.map (rn x y)) y)) (by unfold M.f35; rw [if_pos (by rw [tab_len]; omega)]) ?_
      refine bnd (idx_tab hy) (bnd (idx_tab hx) (bnd (idx_tab hx) (bnd (set1_tab hx) (bnd (idx_tab hy) (bnd (set1_tab hy) ?_)))))
      have hrow : ∀ z ∈ tab n (frontS n kn of x), z.length ≤ 900 := by
        intro z hz
        unfold tab at hz
        obtain ⟨b, _, rfl⟩ := List.mem_map.1 hz
        have := frontS_len hm x b
        omega
      refine bnd (f36_eq (by rw [tab_len]; omega) hrow) ?_
      have hF : ∀ c, c < n → frontS n (kn.map (rn x y)) (of.map (rn x y)) y (sw x y c) = frontS n kn of x c := fun c hc =>
        front_congr hl hcs fun s => by rw [← hW s hx hc, exy]
      have : (tab n fun a => if a = y then frontS n (kn.map (rn x y)) (of.map (rn x y)) y x else if a = x then frontS n (kn.map (rn x y)) (of.map (rn x y)) y y else frontS n (kn.map (rn x y)) (of.map (rn x y)) y a) = tab n (frontS n kn of x) := by
        apply tab_congr
        intro c hc
        rw [← hF c hc]
        unfold sw
        by_cases q1 : c = x
        · subst q1
          rw [if_neg hxy, if_pos rfl, if_pos rfl]
        · by_cases q2 : c = y
          · rw [if_pos q2, if_neg q1, if_pos q2]
          · rw [if_neg q2, if_neg q1, if_neg q1, if_neg q2]
      rw [this]
      simp
    by_cases ho : 0 < of.length
    · rw [if_pos (by simpa using ho)]
      refine bnd (f20_eq hm hx hb (code_zero hv hx hb h0 h1) 0) (bnd (f20_eq hm' hy htb (code_zero hv' hy htb h0 h1) 0) ?_)
      rw [price_congr hl hcs hWxb]
      rw [if_neg (by simp)]
      exact hlast
    · rw [if_neg (by simpa using ho)]
      exact hlast
  · rw [if_pos]
    simp
    rcases Bool.eq_false_or_eq_true (askB p0 p1 [p2, p3, p4]) with h | h
    · have hc' : ¬ (0 ≤ p5 ∧ p5 ≤ 16777216 ∧ p2 ≠ p3 ∧ p4 ≠ p3) := fun q => hc ⟨h, q⟩
      omega
    · simp [h]
end Go.Proofs.Ytkbilbeaedocjaa
