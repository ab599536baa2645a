/-
  What is proved: what the specification's Known and the code's Shown answer on valid markets of few offers.
-/
import Derived.Test.YtkbilbeaedocjaaKeepQ
namespace Go.Proofs.Ytkbilbeaedocjaa
open Go Go.Proofs.Ytkbilbeaedocjaa.Wh
set_option maxRecDepth 100000

theorem picks_length {of : List S_api_Offer} {l : List Nat} (hl : ∀ i ∈ l, i < of.length) : (picks of l).length = l.length := by
  induction l with
  | nil => rfl
  | cons i l ih =>
    have h := List.getElem?_eq_getElem (hl i (by simp))
    have := ih fun i hi => hl i (by simp [hi])
    unfold picks at *
    rw [List.filterMap_cons, h]
    simp [this]
def pot (W : Tb) (a c : Nat) : Int := if 1099511627776 ≤ W a c then 0 else W a c
def spn (W : Tb) (a : Nat) (o : S_api_Offer) : S_api_Span :=
  (imin 0 (wr (pot W a o.2.1.toNat - pot W a o.1.toNat)), wr (imin 0 (wr (pot W a o.2.1.toNat - pot W a o.1.toNat)) + o.2.2.2))
theorem f111_eq {n a c : Nat} {W : Tb} (ha : a < n) (hc : c < n) : M.f111 (c : Int) (mat n W) (a : Int) = some (pot W a c) := by
  unfold M.f111 pot
  refine bnd (idx_mat ha) (bnd (idx_row hc) ?_)
  by_cases q : 1099511627776 ≤ W a c
  · rw [if_pos (by simpa using q), if_pos q]
  · rw [if_neg (by simpa using q), if_neg q]
    exact bnd (idx_mat ha) (bnd (idx_row hc) rfl)
theorem f112_eq {n a : Nat} {W : Tb} {o : S_api_Offer} (ha : a < n) (ho : OkC n o) : M.f112 o (fun x0 => M.f111 x0 (mat n W) (a : Int)) = some (spn W a o) := by
  obtain ⟨⟨x, hx1, hx2⟩, ⟨y, hy1, hy2⟩, _⟩ := ho
  obtain ⟨oa, ob, oc, ow⟩ := o
  have hx1 : oa = (x : Int) := hx1
  have hy1 : ob = (y : Int) := hy1
  subst hx1; subst hy1
  unfold M.f112
  refine bnd (f111_eq ha hy2) (bnd (f111_eq ha hx2) ?_)
  unfold spn
  simp only [Int.toNat_natCast]
section
variable {n : Nat} {kn of : List S_api_Offer} (hm : Ok n kn of)
include hm
theorem Ok.f62 {s a b : Nat} {p4 p5 : List S_api_Span} (ha : a < n) (hb : b < n) (hc : codeQ ((n : Int), kn, of) (cst (sel of.length s)) [(a : Int), (b : Int)] [] = 0) (h4 : p4.length ≤ 100) (h5 : p5.length ≤ 100) :
    M.f62 1000 ((n : Int), kn, of) (cst (sel of.length s)) a b p4 p5 = some (if (tellsB kn p4 && tellsB (picks of (sel of.length s)) p5) = true then ansR n (tabR ((kn ++ picks of (sel of.length s)).zip (p4 ++ p5))) a b else ((0, 0), false, 1)) := by
  have h6 := hm.lo; have hk := hm.lk; have h8 := hm.n8
  have h7 := sel_len of.length s
  have hpl := picks_length (of := of) (l := sel of.length s) fun i hi => sel_lt hi
  unfold M.f62
  refine bnd (f72_eqQ _ _ _ _ (by rw [cst_length]; omega) (by simp)) ?_
  obtain ⟨c1, c2, c3, _⟩ := codeQ_valid hc
  rw [codeQ_zero c1 c2 c3 (by rfl), if_neg (by decide)]
  refine bnd hm.cmps ?_
  have hokB := hm.okB (l := sel of.length s)
  have hcl := cst_length (sel of.length s)
  generalize picks of (sel of.length s) = ps at *
  rw [tells_both]
  by_cases hl : kn.length = p4.length ∧ ps.length = p5.length
  · obtain ⟨l1, l2⟩ := hl
    rw [if_neg (by simp [l1]; omega)]
    refine bnd (y := p4) (by unfold app; rw [if_pos (by simp; omega)]; rfl) (bnd (y := p4 ++ p5) (by unfold app; rw [if_pos (by omega)]) ?_)
    have hcs : (kn ++ ps).length = (p4 ++ p5).length := by simp; omega
    have hcl : (kn ++ ps).length ≤ 900 := by rw [List.length_append]; omega
    simp only [l1, l2, decide_true, Bool.true_and]
    generalize kn ++ ps = cs at *
    generalize p4 ++ p5 = x at *
    have hlz : (cs.zip x).length = cs.length := by rw [List.length_zip]; omega
    refine bnd (loopM_test (N := cs.length) (fun j => (j : Int)) (fun j => match (cs.zip x)[j]? with | some e => okS e.1 e.2 | none => true) (.inr ((0, 0), false, 1)) (.inl ()) rfl (by omega) (fun j hj _ => ?_) ?_) ?_
    · have h1 := List.getElem?_eq_getElem hj
      have h2 := List.getElem?_eq_getElem (show j < x.length by omega)
      rw [zip_at h1 h2, if_pos (by simpa using hj)]
      refine bnd (by rw [idx_nat]; exact h2) (bnd (f80_eq _ _ _) ?_)
      simp only [idx_nat, h1, h2]
      generalize x[j] = sp
      generalize cs[j] = o
      unfold okS
      rw [wr_id (n := (j : Int) + 1) (by omega) (by omega)]
      by_cases k1 : -1073741824 ≤ sp.1
      · by_cases k2 : sp.1 ≤ 1073741824
        · by_cases k3 : sp.2 = wr (sp.1 + o.2.2.2)
          · simp [k1, k2, guardO, k3]
          · simp [k1, k2, guardO, k3]
        · simp [k1, k2, guardO]
      · simp [k1, guardO]
    · rw [if_neg (by simp)]
    · have e : (List.range cs.length).all (fun j => match (cs.zip x)[j]? with | some e => okS e.1 e.2 | none => true) = (cs.zip x).all fun e => okS e.1 e.2 := by
        rw [← hlz]
        exact all_range _ _ _ fun j e h => by rw [h]
      rw [e]
      cases hz : (cs.zip x).all fun e => okS e.1 e.2 with
      | false => rfl
      | true =>
        have hE := okE_all hokB hz
        simp only [if_true]
        refine bnd (blankR_eq hm.n2 h8) ?_
        refine bnd (loopM_go (N := cs.length) (fun j => ((j : Int), mat n (((cs.zip x).take j).foldl spR (diag far0)))) (mat n (tabR (cs.zip x))) rfl (by omega) (fun j hj => ?_) ?_) ?_
        · have h1 := List.getElem?_eq_getElem hj
          have h2 := List.getElem?_eq_getElem (show j < x.length by omega)
          have hzj := zip_at h1 h2
          have he := hE _ (List.mem_of_getElem? hzj)
          rw [take_foldl hzj, if_pos (by simpa using hj)]
          generalize ((cs.zip x).take j).foldl spR (diag far0) = F
          simp only [idx_nat, h1, h2]
          generalize cs[j] = o at *
          generalize x[j] = sp at *
          obtain ⟨oa, ob, oc, ow⟩ := o
          obtain ⟨u, hu1, hu2⟩ := he.a
          obtain ⟨v, hv1, hv2⟩ := he.b
          have hu1 : oa = (u : Int) := hu1
          have hv1 : ob = (v : Int) := hv1
          subst hu1; subst hv1
          rw [wr_id (n := (j : Int) + 1) (by omega) (by omega)]
          simp only [Option.bind_eq_bind, Option.bind_some, idx_mat hu2, idx_mat hv2, idx_row hu2, idx_row hv2, set2_mat hu2 hv2, set2_mat hv2 hu2, spR, eA, eB, Int.toNat_natCast]
          rfl
        · rw [if_neg (by simp)]
          show some (Out.leave (mat n (((cs.zip x).take cs.length).foldl spR (diag far0)))) = _
          rw [← hlz, List.take_length]; rfl
        · show (loopM _ 1000 ((0 : Int), mat n (tabR (cs.zip x))) >>= _) = _
          generalize tabR (cs.zip x) = R
          refine bnd (loopM_test (N := n) (fun c => ((c : Int), mat n (clF n R c))) (fun c => noClash n R (c + 1)) (.inr ((0, 0), false, 31)) (.inl (mat n (clF n R n))) rfl (by omega) (fun c hc _ => ?_) ?_) ?_
          · rw [if_pos (by simpa using hc)]
            refine bnd (loopM_map (N := n) (fun a F => rowp hfar n c a F) (fun j F => ((j : Int), mat n F)) (fun F => mat n F) (t0 := clF n R c) (by omega) (fun a F ha => ?_) (fun F => by rw [if_neg (by simp)])) ?_
            · rw [if_pos (by simpa using ha)]
              refine bnd (loopM_map (N := n) (fun b F => stp hfar c a b F) (fun j F => ((j : Int), mat n F)) (fun F => mat n F) (t0 := F) (by omega) (fun b F hb => ?_) (fun F => by rw [if_neg (by simp)])) ?_
              · rw [if_pos (by simpa using hb), wr_id (n := (b : Int) + 1) (by omega) (by omega)]
                simp only [Option.bind_eq_bind, Option.bind_some, idx_mat hc, idx_mat ha, idx_row hb, idx_row hc, set2_mat ha hb]
                by_cases k1 : F a c < 1099511627776
                · by_cases k2 : F c b < 1099511627776
                  · simp [guardO, k1, k2, stp, hfar, idx_row hb]
                  · simp [guardO, k1, k2, idx_row hb, stp_self c a b F (by omega)]
                · simp [guardO, k1, stp_self c a b F (by omega)]
              · rw [wr_id (n := (a : Int) + 1) (by omega) (by omega)]; rfl
            · show (loopM _ 1000 (0 : Int) >>= _) = _
              refine bnd (loopM_test (N := n) (fun j => (j : Int)) (fun j => !decide (clF n R (c + 1) j j < 0)) (.inr ((0, 0), false, 31)) (.inl ()) rfl (by omega) (fun j hj _ => ?_) ?_) ?_
              · rw [if_pos (by simpa using hj)]
                refine bnd (idx_mat hj) (bnd (idx_row hj) ?_)
                rw [wr_id (n := (j : Int) + 1) (by omega) (by omega)]
                show (if decide (clF n R (c + 1) j j < 0) = true then _ else _) = _
                by_cases q : clF n R (c + 1) j j < 0 <;> simp [q]
              · rw [if_neg (by simp)]
              · show sumE (if noClash n R (c + 1) = true then _ else _) _ _ = _
                rw [wr_id (n := (c : Int) + 1) (by omega) (by omega)]
                cases noClash n R (c + 1) <;> rfl
          · rw [if_neg (by simp)]
          · unfold ansR
            show sumE (if ((List.range n).all fun c => noClash n R (c + 1)) = true then _ else _) _ _ = _
            cases (List.range n).all fun c => noClash n R (c + 1) with
            | false => rfl
            | true =>
              simp only [if_true]
              refine bnd (idx_mat ha) (bnd (idx_row hb) ?_)
              by_cases q : 1099511627776 ≤ clF n R n a b
              · rw [if_pos (by simpa using q), if_pos q]
              · rw [if_neg (by simpa using q), if_neg q]
                exact bnd (idx_mat hb) (bnd (idx_row ha) (bnd (idx_mat ha) (bnd (idx_row hb) rfl)))
  · have e : ((((p4.length : Int) != (((n : Int), kn, of) : S_api_Market).2.1.length) || ((p5.length : Int) != ((cst (sel of.length s)).length : Int)))) = true := by
      show ((((p4.length : Int) != (kn.length : Int)) || ((p5.length : Int) != ((cst (sel of.length s)).length : Int)))) = true
      rw [hcl]
      simp
      omega
    rw [if_pos e, if_neg]
    simp
    omega
theorem Ok.f63 {s a b : Nat} (hs : s < 2 ^ of.length) (ha : a < n) (hb : b < n) (hc : codeQ ((n : Int), kn, of) (cst (sel of.length s)) [(a : Int), (b : Int)] [] = 0) :
    M.f63 ((n : Int), kn, of) (cst (sel of.length s)) a b = some (if 1099511627776 ≤ WdS n kn of s a b then ([], [], 4) else (kn.map (spn (WdS n kn of s) a), (picks of (sel of.length s)).map (spn (WdS n kn of s) a), 0)) := by
  have h6 := hm.lo; have hk := hm.lk; have h8 := hm.n8
  have h7 := sel_len of.length s
  unfold M.f63
  refine bnd (f76_eqQ _ _ _ _ (by rw [cst_length]; omega) (by simp) (by simp)) ?_
  rw [hc, if_neg (by decide)]
  refine bnd (hm.set hs) (bnd (hm.f83 hs) (bnd (idx_mat ha) (bnd (idx_row hb) ?_)))
  generalize WdS n kn of s = W
  by_cases q : 1099511627776 ≤ W a b
  · rw [if_pos (by simpa using q), if_pos q]
  · rw [if_neg (by simpa using q), if_neg q]
    refine bnd (forS_st (N := kn.length) (fun j => (kn.take j).map (spn W a)) rfl (by omega) fun j hj => ?_) ?_
    · have h1 := List.getElem?_eq_getElem hj
      refine bnd (by rw [idx_nat]; exact h1) (bnd (f112_eq ha (okC_of (hm.k kn[j] (by simp)))) ?_)
      rw [app_one (by rw [List.length_map, List.length_take]; omega), List.take_add_one, h1, List.map_append]
      rfl
    · rw [List.take_length]
      show (forS 0 ((cst (sel of.length s)).length : Int) _ _ >>= _) = _
      rw [cst_length]
      refine bnd (forS_st (N := (sel of.length s).length) (fun j => (picks of ((sel of.length s).take j)).map (spn W a)) rfl (by omega) fun j hj => ?_) ?_
      · obtain ⟨i, o, hi, ho⟩ := pick_at (of := of) (l := sel of.length s) (fun i hi => sel_lt hi) hj
        have hlen := picks_len of ((sel of.length s).take j)
        rw [List.length_take] at hlen
        refine bnd (cst_get hi) (bnd (by rw [idx_nat]; exact ho) (bnd (f112_eq ha (okC_of (hm.o o (List.mem_of_getElem? ho)))) ?_))
        rw [app_one (by rw [List.length_map]; omega), picks_take hi ho, List.map_append]
        rfl
      · rw [List.take_length]
end
end Go.Proofs.Ytkbilbeaedocjaa
