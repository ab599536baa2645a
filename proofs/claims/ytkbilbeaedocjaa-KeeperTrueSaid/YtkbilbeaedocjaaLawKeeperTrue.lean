/-
  What is proved: for every input there is a fuel with which the model of KeeperTrue returns true.
-/
import Derived.Test.YtkbilbeaedocjaaKeepW
import Derived.Test.YtkbilbeaedocjaaKeepX
import Derived.Test.YtkbilbeaedocjaaLawKeeperShown
namespace Go.Proofs.Ytkbilbeaedocjaa
open Go Go.Proofs.Ytkbilbeaedocjaa.Wh
set_option maxRecDepth 100000

theorem codeQ_sizes {m : S_api_Market} {l cl : List Int} (hc : codeQ m l cl [] = 0) {w : Int} (h0 : 0 ≤ w) (h1 : w ≤ 16777216) : codeQ m l cl [w] = 0 := by
  unfold codeQ at hc ⊢
  split at hc
  · rename_i hv
    rw [if_pos hv]
    split at hc
    · rename_i hq
      rw [if_pos]
      simp only [Bool.and_eq_true] at hq ⊢
      refine ⟨hq.1, ?_⟩
      simp [sizeB]
      omega
    · cases hc
  · cases hc
section
variable {n : Nat} {kn of : List S_api_Offer} (hm : Ok n kn of)
include hm
/-- What comparisons show of clocks is known, and true. -/
theorem Ok.known {s a b : Nat} (hs : s < 2 ^ of.length) (ha : a < n) (hb : b < n) (hc : codeQ ((n : Int), kn, of) (cst (sel of.length s)) [(a : Int), (b : Int)] [] = 0) {clocks : List Int} (hn : n ≤ clocks.length) (hcl : ∀ x ∈ clocks, -16777216 ≤ x ∧ x ≤ 16777216)
    {k1 k2 : List S_api_Span} (l1 : k1.length = kn.length) (l2 : k2.length = (picks of (sel of.length s)).length) (t1 : ∀ e ∈ kn.zip k1, TrueSp (clk clocks) e) (t2 : ∀ e ∈ (picks of (sel of.length s)).zip k2, TrueSp (clk clocks) e) :
    ∃ lo hi, M.f61 ((n : Int), kn, of) (cst (sel of.length s)) a b k1 k2 = some (if 1099511627776 ≤ WdS n kn of s a b then ((0, 0), false, 0) else ((lo, hi), true, 0)) ∧
      (WdS n kn of s a b < 1099511627776 → lo ≤ clk clocks b - clk clocks a ∧ clk clocks b - clk clocks a ≤ hi ∧ hi - lo ≤ WdS n kn of s a b ∧ -1099511627776 < lo ∧ hi < 1099511627776) := by
  have h6 := hm.lo; have hk := hm.lk; have h8 := hm.n8
  have h7 := sel_len of.length s
  have hpl := picks_length (of := of) (l := sel of.length s) fun i hi => sel_lt hi
  have hokB := hm.okB (l := sel of.length s)
  have hz : (kn ++ picks of (sel of.length s)).zip (k1 ++ k2) = kn.zip k1 ++ (picks of (sel of.length s)).zip k2 := List.zip_append l1.symm
  have tall : ∀ e ∈ (kn ++ picks of (sel of.length s)).zip (k1 ++ k2), TrueSp (clk clocks) e := fun e he => by
    rw [hz] at he
    rcases List.mem_append.1 he with h | h
    · exact t1 e h
    · exact t2 e h
  have hmem1 : ∀ e ∈ (kn ++ picks of (sel of.length s)).zip (k1 ++ k2), e.1 ∈ kn ++ picks of (sel of.length s) := fun e he => (List.of_mem_zip (a := e.1) (b := e.2) he).1
  have hmem2 : ∀ o ∈ kn ++ picks of (sel of.length s), ∃ e ∈ (kn ++ picks of (sel of.length s)).zip (k1 ++ k2), e.1 = o := fun o ho => by
    obtain ⟨j, hj, e⟩ := List.getElem_of_mem ho
    have hl : (k1 ++ k2).length = (kn ++ picks of (sel of.length s)).length := by rw [List.length_append, List.length_append, l1, l2]
    have hj2 : j < (k1 ++ k2).length := by omega
    refine ⟨(o, (k1 ++ k2)[j]), List.mem_of_getElem? (i := j) (zip_at ?_ (List.getElem?_eq_getElem hj2)), rfl⟩
    rw [List.getElem?_eq_getElem hj, e]
  have hall : (((kn ++ picks of (sel of.length s)).zip (k1 ++ k2)).all fun e => Go.Proofs.Ytkbilbeaedocjaa.okS e.1 e.2) = true := by
    rw [List.all_eq_true]
    intro e he
    have t := tall e he
    have h1 := t.hi; have h2 := t.b0; have h3 := t.b1
    have hw := hokB e.1 (hmem1 e he)
    unfold Go.Proofs.Ytkbilbeaedocjaa.okB at hw
    simp at hw
    unfold Go.Proofs.Ytkbilbeaedocjaa.okS
    rw [wr_id (by omega) (by omega), h1]
    simp
    omega
  have hE := okE_all hokB hall
  have hq : ∀ x, x < n → -16777216 ≤ clk clocks x ∧ clk clocks x ≤ 16777216 := fun x hx => by
    have h := List.getElem?_eq_getElem (show x < clocks.length by omega)
    have e : clk clocks x = clocks[x]'(by omega) := by unfold clk; rw [h]; rfl
    rw [e]
    exact hcl _ (List.getElem_mem _)
  obtain ⟨lo, hi, g1, g2⟩ := ans_true (q := clk clocks) hm.n8 hE hokB hmem2 hmem1 (fun x y hx hy => by have := hq x hx; have := hq y hy; omega) (fun e he => ⟨(tall e he).up, (tall e he).lo⟩) ha hb
  refine ⟨lo, hi, ?_, g2⟩
  rw [hm.f61 ha hb hc (by omega) (by omega), tells_both, l1, l2, hall]
  simp only [decide_true, Bool.and_self, if_true]
  rw [g1]
  rfl
theorem Ok.shownK {s a b : Nat} (ha : a < n) (hb : b < n) (hc : codeQ ((n : Int), kn, of) (cst (sel of.length s)) [(a : Int), (b : Int)] [] = 0) (hW : WdS n kn of s a b < 1099511627776) :
    ∃ lo hi, M.f61 ((n : Int), kn, of) (cst (sel of.length s)) a b (kn.map (spn (WdS n kn of s) a)) ((picks of (sel of.length s)).map (spn (WdS n kn of s) a)) = some ((lo, hi), true, 0) ∧ wr (hi - lo) = WdS n kn of s a b := by
  have h6 := hm.lo; have hk := hm.lk
  have h7 := sel_len of.length s
  have hpl := picks_length (of := of) (l := sel of.length s) fun i hi => sel_lt hi
  obtain ⟨lo, hi, e1, e2⟩ := hm.shown ha hb hc hW
  obtain ⟨r, q1, q2⟩ := known_same (m := ((n : Int), kn, of)) (.inl hm.lo) (l := cst (sel of.length s)) (by rw [cst_length]; omega) a b (p4 := kn.map (spn (WdS n kn of s) a)) (p5 := (picks of (sel of.length s)).map (spn (WdS n kn of s) a)) (by rw [List.length_map]; omega) (by rw [List.length_map]; omega)
  rw [e1] at q2
  cases q2
  exact ⟨lo, hi, q1, e2⟩
end
theorem law_KeeperTrue (p0 : S_api_Market) (p1 p2 p3 : List Int) (p4 p5 : Int) (p6 : List Int) (p7 : Int) : ∃ fuel, M.f15 fuel p0 p1 p2 p3 p4 p5 p6 p7 = some true := by
  refine ⟨1000, ?_⟩
  unfold M.f15
  refine bnd sane_ok ?_
  simp only [Bool.not_true, Bool.false_eq_true, if_false]
  refine bnd (f31_eq p0 p1 [p4, p5] (by simp)) ?_
  by_cases hc0 : askB p0 p1 [p4, p5] = true ∧ p0.1 ≤ (p2.length : Int) ∧ p2.length ≤ 100 ∧ p3.length ≠ 0 ∧ p3.length ≤ 100
  · obtain ⟨hask, hlen, hl2, hl3, hl4⟩ := hc0
    have g1 : (decide ((p2.length : Int) < p0.1)) = false := decide_eq_false (by omega)
    have g2 : (decide (100 < (p2.length : Int))) = false := decide_eq_false (by omega)
    have g3 : ((p3.length : Int) == 0) = false := by rw [beq_eq_false_iff_ne]; omega
    have g4 : (decide (100 < (p3.length : Int))) = false := decide_eq_false (by omega)
    rw [hask, g1, g2, g3, g4]
    refine bnd (y := decide (p6.length ≤ 100)) (by rw [short_eq _ (by simp)]; simp [guardO]) ?_
    by_cases h6' : p6.length ≤ 100
    · rw [if_neg (by simpa using h6')]
      have hf' := fewB_or (m := p0) (by unfold askB at hask; simp only [Bool.and_eq_true] at hask; exact hask.1.1.1.1)
      have hcq : codeQ p0 p1 [p4, p5] [] = 0 := by
        unfold askB at hask
        simp only [Bool.and_eq_true] at hask
        exact codeQ_zero hask.1.1.2 hask.1.2 hask.2 rfl
      obtain ⟨n, kn, of, s, rfl, hm, hv, hs, rfl, hcl⟩ := ask_cases hask
      simp only [List.all_cons, List.all_nil, Bool.and_true, Bool.and_eq_true] at hcl
      obtain ⟨a, rfl, ha⟩ := clock_nat hcl.1
      obtain ⟨b, rfl, hb⟩ := clock_nat hcl.2
      have h6 := hm.lo; have hk := hm.lk; have h8 := hm.n8
      have h7 := sel_len of.length s
      have hpl := picks_length (of := of) (l := sel of.length s) fun i hi => sel_lt hi
      have hn : n ≤ p2.length := by have : (n : Int) ≤ (p2.length : Int) := hlen; omega
      refine bnd (forM_all p2 (by omega) (fun x => decide (-16777216 ≤ x) && decide (x ≤ 16777216)) true _ fun i x hx => ?_) ?_
      · refine bnd (by rw [idx_nat]; exact hx) ?_
        by_cases q : -16777216 ≤ x ∧ x ≤ 16777216
        · rw [if_neg (by simp; omega), if_pos (by simp; omega)]
        · rw [if_pos (by simp; omega), if_neg (by simp; omega)]
      · by_cases hcl2 : (p2.all fun x => decide (-16777216 ≤ x) && decide (x ≤ 16777216)) = true
        · rw [if_pos hcl2]
          simp only [Out.elim]
          have hclk : ∀ x ∈ p2, -16777216 ≤ x ∧ x ≤ 16777216 := fun x hx => by
            have := List.all_eq_true.1 hcl2 x hx
            simpa using this
          have ho : p3 ≠ [] := fun e => hl3 (by rw [e]; rfl)
          obtain ⟨k1, e1, l1, t1⟩ := show_loop hn hclk ho hl4 (cs := kn) (t := 0) hm.k (by omega) (by omega) (f := fun i_16 s_18 =>
            (idx kn i_16) >>= fun v_23 =>
            (M.f67 v_23 p3 s_18.1 p2) >>= fun z_25 =>
            (app s_18.2 ([z_25.1] : List S_api_Span)) >>= fun z_28 =>
            some (z_25.2, z_28)) fun j o st hj => by rw [idx_nat, hj]; rfl
          refine bnd e1 ?_
          have hps : ∀ o ∈ picks of (sel of.length s), okB (n : Int) 10000 o = true := fun o ho => hm.okB (l := sel of.length s) o (List.mem_append_right _ ho)
          obtain ⟨k2, e2, l2, t2⟩ := show_loop hn hclk ho hl4 (cs := picks of (sel of.length s)) (t := 0 + kn.length) hps (by omega) (by omega) (f := fun i_31 s_33 =>
            (idx (cst (sel of.length s)) i_31) >>= fun v_38 =>
            (idx of v_38) >>= fun v_40 =>
            (M.f67 v_40 p3 s_33.1 p2) >>= fun z_42 =>
            (app s_33.2 ([z_42.1] : List S_api_Span)) >>= fun z_45 =>
            some (z_42.2, z_45)) fun j o st hj => by
              have hjl : j < (sel of.length s).length := by have := (List.getElem?_eq_some_iff.1 hj).1; omega
              obtain ⟨i, o', hi, ho'⟩ := pick_at (of := of) (l := sel of.length s) (fun i hi => sel_lt hi) hjl
              have := picks_get (of := of) (l := sel of.length s) (fun i hi => sel_lt hi) hi ho'
              rw [hj] at this
              cases this
              rw [cst_get hi]
              simp only [Option.bind_eq_bind, Option.bind_some]
              rw [idx_nat, ho']
              rfl
          rw [hpl] at e2
          show (forS 0 ((cst (sel of.length s)).length : Int) _ _ >>= _) = _
          rw [cst_length]
          refine bnd e2 ?_
          obtain ⟨lo, hi, g1, g2⟩ := hm.known hs ha hb hcq hn hclk l1 l2 t1 t2
          refine bnd g1 (bnd (hm.f33 hs ha hb hcq) ?_)
          have hp := hm.f66 hs ha hb hcq
          unfold widthR
          by_cases q : 1099511627776 ≤ WdS n kn of s a b
          · rw [if_pos q, if_pos q]
            rw [if_neg (by simp), if_pos (by simp)]
            refine bnd (hp.1 q) ?_
            have h64 := hm.f64 hs ha hb (w := 16777216) (by omega) (codeQ_sizes hcq (by omega) (by omega)) p6
            refine bnd (y := cpR n (Stp (csS kn of s)) a b 16777216 p6) (by show guardO true _ = _; exact h64) ?_
            have : cpR n (Stp (csS kn of s)) a b 16777216 p6 ≠ 0 := fun e => by have := hm.accepted ha e; omega
            simp [this]
          · have hW : WdS n kn of s a b < 1099511627776 := by omega
            have hr := hm.range s ha hb
            obtain ⟨y1, y2, y3, y4, y5⟩ := g2 hW
            rw [if_neg q, if_neg q]
            rw [if_neg (by simp), if_neg (by simp)]
            have hget : ∀ k, k < n → idx p2 (k : Int) = some (clk p2 k) ∧ -16777216 ≤ clk p2 k ∧ clk p2 k ≤ 16777216 := fun k hk => by
              have h := List.getElem?_eq_getElem (show k < p2.length by omega)
              have e : clk p2 k = p2[k]'(by omega) := by unfold clk; rw [h]; rfl
              rw [idx_nat, h, e]
              exact ⟨rfl, hclk _ (List.getElem_mem _)⟩
            obtain ⟨za, za'⟩ := hget a ha
            obtain ⟨zb, zb'⟩ := hget b hb
            refine bnd zb (bnd za ?_)
            rw [wr_id (show -9223372036854775808 ≤ clk p2 b - clk p2 a by omega) (by omega), wr_id (show -9223372036854775808 ≤ hi - lo by omega) (by omega)]
            rw [if_neg (by simp; omega)]
            have hless : ∃ v, guardO (((decide (0 < WdS n kn of s a b)) && (decide (0 ≤ p7))) && (decide (p7 < WdS n kn of s a b))) (M.f64 ((n : Int), kn, of) (cst (sel of.length s)) a b p7 p6) = some v ∧ ¬ ((((decide (0 < WdS n kn of s a b)) && (decide (0 ≤ p7))) && (decide (p7 < WdS n kn of s a b))) && (v == 0)) = true := by
              by_cases g : 0 < WdS n kn of s a b ∧ 0 ≤ p7 ∧ p7 < WdS n kn of s a b
              · have eg : (((decide (0 < WdS n kn of s a b)) && (decide (0 ≤ p7))) && (decide (p7 < WdS n kn of s a b))) = true := by simp; omega
                rw [eg]
                refine ⟨_, hm.f64 hs ha hb (w := p7) (by omega) (codeQ_sizes hcq (by omega) (by omega)) p6, ?_⟩
                have : cpR n (Stp (csS kn of s)) a b p7 p6 ≠ 0 := fun e => by have := hm.accepted ha e; omega
                simp [this]
              · have eg : (((decide (0 < WdS n kn of s a b)) && (decide (0 ≤ p7))) && (decide (p7 < WdS n kn of s a b))) = false := by
                  rw [← Bool.not_eq_true]; simp; omega
                rw [eg]
                exact ⟨default, rfl, by simp⟩
            obtain ⟨v, v1, v2⟩ := hless
            refine bnd v1 ?_
            rw [if_neg v2]
            refine bnd (hm.f63 hs ha hb hcq) ?_
            rw [if_neg q]
            obtain ⟨lo2, hi2, w1, w2⟩ := hm.shownK ha hb hcq hW
            refine bnd w1 ?_
            obtain ⟨p, u1, u2, u3⟩ := hp.2 hW
            refine bnd u1 ?_
            have h64 := hm.f64 hs ha hb (w := WdS n kn of s a b) (by omega) (codeQ_sizes hcq (by omega) (by omega)) p
            rw [u3] at h64
            rw [w2]
            simp only [beq_self_eq_true, Bool.and_self, guardO, h64]
            rfl
        · rw [if_neg hcl2]
          rfl
    · rw [if_pos (by simpa using h6')]
  · have hG : (((((!askB p0 p1 [p4, p5]) || (decide ((p2.length : Int) < p0.1))) || (decide (100 < (p2.length : Int)))) || ((p3.length : Int) == 0)) || (decide (100 < (p3.length : Int)))) = true := by
      cases hG : (((((!askB p0 p1 [p4, p5]) || (decide ((p2.length : Int) < p0.1))) || (decide (100 < (p2.length : Int)))) || ((p3.length : Int) == 0)) || (decide (100 < (p3.length : Int)))) with
      | true => rfl
      | false =>
        exfalso
        simp only [Bool.or_eq_false_iff, decide_eq_false_iff_not, beq_eq_false_iff_ne] at hG
        obtain ⟨⟨⟨⟨q1, q2⟩, q3⟩, q4⟩, q5⟩ := hG
        exact hc0 ⟨by simpa using q1, by omega, by omega, by omega, by omega⟩
    rw [hG]
    rfl
end Go.Proofs.Ytkbilbeaedocjaa
