/-
  What is proved: what Known and Shown answer on valid markets of few offers.
-/
import Derived.Test.YtkbilbeaedocjaaKeepP
import Derived.Test.YtkbilbeaedocjaaKeepI
import Derived.Test.YtkbilbeaedocjaaModelI
namespace Go.Proofs.Ytkbilbeaedocjaa
open Go Go.Proofs.Ytkbilbeaedocjaa.Wh
set_option maxRecDepth 100000

theorem f46_eqQ {a b : List S_api_Offer} (ha : a.length ≤ 4096) (hb : b.length ≤ 4096) : M.f46 [a, b] = some (a ++ b) := by
  unfold M.f46
  have n2 : ((([a, b] : List (List S_api_Offer)).length : Int)) = ((2 : Nat) : Int) := rfl
  rw [n2]
  refine bnd (forS_st (fun j => match j with | 0 => (0 : Int) | 1 => (a.length : Int) | _ => ((a.length + b.length : Nat) : Int)) rfl (by omega) fun j hj => ?_) ?_
  · match j, hj with
    | 0, _ =>
      refine bnd (y := a) rfl ?_
      show ((if decide (wr (0 + (a.length : Int)) < 0) = true then none else some ()) >>= fun () => some (wr (0 + (a.length : Int)))) = some (a.length : Int)
      rw [Int.zero_add, wr_id (by omega) (by omega), if_neg (by simp)]
      rfl
    | 1, _ =>
      refine bnd (y := b) rfl ?_
      show ((if decide (wr ((a.length : Int) + (b.length : Int)) < 0) = true then none else some ()) >>= fun () => some (wr ((a.length : Int) + (b.length : Int)))) = some ((a.length + b.length : Nat) : Int)
      rw [wr_id (by omega) (by omega), if_neg (by simp; omega)]
      rfl
  · refine bnd (y := ()) ?_ ?_
    · show M.f98 ((a.length + b.length : Nat) : Int) = some ()
      unfold M.f98
      rw [if_pos (by omega)]
    · refine bnd (forS_st (fun j => match j with | 0 => [] | 1 => a | _ => a ++ b) rfl (by omega) fun j hj => ?_) rfl
      match j, hj with
      | 0, _ =>
        refine bnd (y := a) rfl (bnd (y := a) ?_ rfl)
        show app ([] : List S_api_Offer) a = some a
        unfold app
        rw [if_pos (by simp; omega)]; rfl
      | 1, _ =>
        refine bnd (y := b) rfl (bnd (y := a ++ b) ?_ rfl)
        show app a b = some (a ++ b)
        unfold app
        rw [if_pos (by omega)]
theorem f110_eqQ {a b : List S_api_Span} (ha : a.length ≤ 4096) (hb : b.length ≤ 4096) : M.f110 [a, b] = some (a ++ b) := by
  unfold M.f110
  have n2 : ((([a, b] : List (List S_api_Span)).length : Int)) = ((2 : Nat) : Int) := rfl
  rw [n2]
  refine bnd (forS_st (fun j => match j with | 0 => (0 : Int) | 1 => (a.length : Int) | _ => ((a.length + b.length : Nat) : Int)) rfl (by omega) fun j hj => ?_) ?_
  · match j, hj with
    | 0, _ =>
      refine bnd (y := a) rfl ?_
      show ((if decide (wr (0 + (a.length : Int)) < 0) = true then none else some ()) >>= fun () => some (wr (0 + (a.length : Int)))) = some (a.length : Int)
      rw [Int.zero_add, wr_id (by omega) (by omega), if_neg (by simp)]
      rfl
    | 1, _ =>
      refine bnd (y := b) rfl ?_
      show ((if decide (wr ((a.length : Int) + (b.length : Int)) < 0) = true then none else some ()) >>= fun () => some (wr ((a.length : Int) + (b.length : Int)))) = some ((a.length + b.length : Nat) : Int)
      rw [wr_id (by omega) (by omega), if_neg (by simp; omega)]
      rfl
  · refine bnd (y := ()) ?_ ?_
    · show M.f127 ((a.length + b.length : Nat) : Int) = some ()
      unfold M.f127
      rw [if_pos (by omega)]
    · refine bnd (forS_st (fun j => match j with | 0 => [] | 1 => a | _ => a ++ b) rfl (by omega) fun j hj => ?_) rfl
      match j, hj with
      | 0, _ =>
        refine bnd (y := a) rfl (bnd (y := a) ?_ rfl)
        show app ([] : List S_api_Span) a = some a
        unfold app
        rw [if_pos (by simp; omega)]; rfl
      | 1, _ =>
        refine bnd (y := b) rfl (bnd (y := a ++ b) ?_ rfl)
        show app a b = some (a ++ b)
        unfold app
        rw [if_pos (by omega)]
theorem picks_loop {of : List S_api_Offer} {l : List Nat} (hl : ∀ i ∈ l, i < of.length) (hn : l.length ≤ 4000) :
    forS 0 ((cst l).length : Int) (([] : List S_api_Offer) : (List S_api_Offer)) (fun i_4 s_6 => (idx (cst l) i_4) >>= fun v_11 => (idx of v_11) >>= fun v_13 => (app s_6 ([v_13] : List S_api_Offer)) >>= fun z_15 => some z_15) = some (picks of l) := by
  rw [cst_length]
  have := forS_st (N := l.length) (s := ([] : List S_api_Offer)) (f := fun i_4 s_6 => (idx (cst l) i_4) >>= fun v_11 => (idx of v_11) >>= fun v_13 => (app s_6 ([v_13] : List S_api_Offer)) >>= fun z_15 => some z_15) (fun j => picks of (l.take j)) (by simp [picks]) (by omega) fun j hj => by
    obtain ⟨i, o, hi, ho⟩ := pick_at hl hj
    have hlen := picks_len of (l.take j)
    rw [List.length_take] at hlen
    simp only [cst_get hi, Option.bind_eq_bind, Option.bind_some, idx_nat, ho]
    rw [app_one (by omega), picks_take hi ho]
    rfl
  rw [List.take_length] at this
  exact this
def okS (o : S_api_Offer) (s : S_api_Span) : Bool := decide (-1073741824 ≤ s.1) && decide (s.1 ≤ 1073741824) && (s.2 == wr (s.1 + o.2.2.2))
def tellsB (l : List S_api_Offer) (x : List S_api_Span) : Bool := decide (l.length = x.length) && (l.zip x).all fun e => okS e.1 e.2
theorem zip_at {α β : Type} {l : List α} {x : List β} {j : Nat} {a : α} {b : β} (h1 : l[j]? = some a) (h2 : x[j]? = some b) : (l.zip x)[j]? = some (a, b) := by
  rw [List.getElem?_zip_eq_some]; exact ⟨h1, h2⟩
theorem f108_eq (l : List S_api_Offer) (x : List S_api_Span) (hx : x.length ≤ 4096) : M.f108 l x = some (tellsB l x) := by
  unfold M.f108 tellsB
  by_cases hl : l.length = x.length
  · rw [if_neg (by simp [hl])]
    refine bnd (forM_test (N := x.length) (fun j => match (l.zip x)[j]? with | some e => okS e.1 e.2 | none => true) false (by omega) fun j hj _ => ?_) ?_
    · have h1 := List.getElem?_eq_getElem hj
      have h2 := List.getElem?_eq_getElem (show j < l.length by omega)
      rw [zip_at h2 h1, idx_nat, idx_nat, h1, h2]
      generalize x[j] = s
      generalize l[j] = o
      simp only [Option.bind_eq_bind, Option.bind_some]
      unfold okS
      by_cases k1 : s.1 < -1073741824
      · simp [k1, guardO, show ¬ -1073741824 ≤ s.1 by omega]
      · by_cases k2 : 1073741824 < s.1
        · simp [k1, k2, guardO, show ¬ s.1 ≤ 1073741824 by omega]
        · by_cases k3 : s.2 = wr (s.1 + o.2.2.2)
          · simp [k1, k2, guardO, k3, show -1073741824 ≤ s.1 by omega, show s.1 ≤ 1073741824 by omega]
          · simp [k1, k2, guardO, k3]
    · have e : (List.range x.length).all (fun j => match (l.zip x)[j]? with | some e => okS e.1 e.2 | none => true) = (l.zip x).all fun e => okS e.1 e.2 := by
        have hz : (l.zip x).length = x.length := by rw [List.length_zip]; omega
        rw [← hz]
        exact all_range _ _ _ fun j e h => by rw [h]
      rw [e]
      cases (l.zip x).all fun e => okS e.1 e.2 <;> simp [hl, Out.elim]
  · rw [if_pos (by simp; omega)]
    simp [hl]
theorem tells_both {kn ps : List S_api_Offer} {x y : List S_api_Span} : (tellsB kn x && tellsB ps y) = (decide (kn.length = x.length) && decide (ps.length = y.length) && ((kn ++ ps).zip (x ++ y)).all fun e => okS e.1 e.2) := by
  unfold tellsB
  by_cases h : kn.length = x.length
  · rw [List.zip_append h, List.all_append]
    cases (kn.zip x).all fun e => okS e.1 e.2 <;> cases (ps.zip y).all fun e => okS e.1 e.2 <;> simp [h]
  · simp [h]
theorem okE_of {n : Nat} {c : Int} {e : ES} (h : okB (n : Int) c e.1 = true) (hs : okS e.1 e.2 = true) : OkE n e := by
  unfold okB at h
  unfold okS at hs
  simp at h hs
  obtain ⟨⟨⟨⟨⟨⟨⟨⟨h1, h2⟩, h3⟩, h4⟩, h5⟩, h6⟩, h7⟩, h8⟩, h9⟩ := h
  obtain ⟨⟨k1, k2⟩, k3⟩ := hs
  rw [wr_id (by omega) (by omega)] at k3
  exact ⟨⟨e.1.1.toNat, by omega, by omega⟩, ⟨e.1.2.1.toNat, by omega, by omega⟩, h5, h6, h7, k1, k2, k3⟩
theorem okE_all {n : Nat} {c : Int} {cs : List S_api_Offer} {x : List S_api_Span} (h : ∀ o ∈ cs, okB (n : Int) c o = true) (hs : ((cs.zip x).all fun e => okS e.1 e.2) = true) : ∀ e ∈ cs.zip x, OkE n e :=
  fun e he => okE_of (h e.1 (List.of_mem_zip he).1) (List.all_eq_true.1 hs e he)
theorem stp_self (c x y : Nat) (F : Tb) (h : ¬ (F x c < 1099511627776 ∧ F c y < 1099511627776)) : stp hfar c x y F = F := by
  unfold stp hfar
  rw [if_neg h]
  funext a b
  unfold updM
  split
  · rename_i q; rw [q.1, q.2]
  · rfl
section
variable {n : Nat} {kn of : List S_api_Offer} (hm : Ok n kn of)
include hm
theorem Ok.okB {l : List Nat} : ∀ o ∈ kn ++ picks of l, okB (n : Int) 10000 o = true := by
  intro o ho
  rcases List.mem_append.1 ho with ho | ho
  · exact okB_mono (hm.k o ho) (by omega)
  · obtain ⟨i, _, hi⟩ := mem_picks.1 ho
    exact hm.o o (List.mem_of_getElem? hi)
theorem Ok.f61 {s a b : Nat} {p4 p5 : List S_api_Span} (ha : a < n) (hb : b < n) (hc : codeQ ((n : Int), kn, of) (cst (sel of.length s)) [(a : Int), (b : Int)] [] = 0) (h4 : p4.length ≤ 100) (h5 : p5.length ≤ 100) :
    M.f61 ((n : Int), kn, of) (cst (sel of.length s)) a b p4 p5 = some (if (tellsB kn p4 && tellsB (picks of (sel of.length s)) p5) = true then ansT n (tabT ((kn ++ picks of (sel of.length s)).zip (p4 ++ p5))) a b else ((0, 0), false, 1)) := by
  have h6 := hm.lo; have hk := hm.lk; have h8 := hm.n8
  have h7 := sel_len of.length s
  have hpl := picks_len of (sel of.length s)
  unfold M.f61
  refine bnd (f76_eqQ _ _ _ _ (by rw [cst_length]; omega) (by simp) (by simp)) ?_
  rw [hc, if_neg (by decide)]
  refine bnd (picks_loop (fun i hi => sel_lt hi) (by omega)) ?_
  refine bnd (f108_eq _ _ (by omega)) ?_
  have hokB := hm.okB (l := sel of.length s)
  generalize picks of (sel of.length s) = ps at *
  refine bnd (y := tellsB kn p4 && tellsB ps p5) ?_ ?_
  · rw [f108_eq _ _ (by omega)]
    cases tellsB kn p4 <;> simp [guardO]
  by_cases ht : (tellsB kn p4 && tellsB ps p5) = true
  · rw [if_pos ht, ht]
    have ht' := ht
    rw [Bool.and_eq_true] at ht'
    rw [ht'.1, if_neg (by decide)]
    have hcs : (kn ++ ps).length = (p4 ++ p5).length := by
      rw [tells_both] at ht
      simp at ht
      simp; omega
    have hz : (((kn ++ ps).zip (p4 ++ p5)).all fun e => okS e.1 e.2) = true := by
      rw [tells_both] at ht
      simp only [Bool.and_eq_true] at ht
      exact ht.2
    have hE := okE_all hokB hz
    refine bnd (f109_eq hm.n2 h8) ?_
    refine bnd (forS_map (fun c G => updM G c c 0) (mat n) (by omega) fun j F hj => by
      simp only [Option.bind_eq_bind, Option.bind_some, idx_mat hj, idx_row hj, set2_mat hj hj]) ?_
    rw [itr_diag n]
    rw [mat_congr (G := diag far0) (fun a b ha hb => by unfold diag; by_cases h : a = b <;> simp [h, hb])]
    refine bnd (f46_eqQ (show kn.length ≤ 4096 by omega) (by omega)) ?_
    have hf110 : M.f110 ([p4, p5] : List (List S_api_Span)) = some (p4 ++ p5) := f110_eqQ (by omega) (by omega)
    rw [hf110]
    have hcl : (kn ++ ps).length ≤ 4096 := by rw [List.length_append]; omega
    show ((forS 0 ((kn ++ ps).length : Int) _ _) >>= _) = _
    generalize kn ++ ps = cs at *
    generalize p4 ++ p5 = x at *
    have hlz : (cs.zip x).length = cs.length := by rw [List.length_zip]; omega
    refine bnd (forS_st (N := cs.length) (fun j => mat n (((cs.zip x).take j).foldl spT (diag far0))) rfl ?_ fun j hj => ?_) ?_
    · omega
    · have h1 := List.getElem?_eq_getElem hj
      have h2 := List.getElem?_eq_getElem (show j < x.length by omega)
      have hzj := zip_at h1 h2
      have he := hE _ (List.mem_of_getElem? hzj)
      rw [take_foldl hzj]
      generalize ((cs.zip x).take j).foldl spT (diag far0) = F
      refine bnd (by rw [idx_nat]; exact h1) (bnd rfl (bnd (by rw [idx_nat]; exact h2) ?_))
      generalize cs[j] = o at *
      generalize x[j] = sp at *
      obtain ⟨oa, ob, oc, ow⟩ := o
      obtain ⟨u, hu1, hu2⟩ := he.a
      obtain ⟨v, hv1, hv2⟩ := he.b
      have hu1 : oa = (u : Int) := hu1
      have hv1 : ob = (v : Int) := hv1
      subst hu1; subst hv1
      simp only [Option.bind_eq_bind, Option.bind_some, idx_mat hu2, idx_mat hv2, idx_row hu2, idx_row hv2, set2_mat hu2 hv2, set2_mat hv2 hu2, spT, eA, eB, Int.toNat_natCast]
    · rw [← hlz, List.take_length]
      show (forS 0 (n : Int) (mat n (tabT (cs.zip x))) _ >>= _) = _
      generalize tabT (cs.zip x) = T
      refine bnd (forS_map (fun c F => phs hfar n c F) (mat n) (by omega) fun c F hc => ?_) ?_
      · refine bnd (forS_map (fun a F => rowp hfar n c a F) (mat n) (by omega) fun a F ha => ?_) rfl
        refine bnd (forS_map (fun b F => stp hfar c a b F) (mat n) (by omega) fun b F hb => ?_) rfl
        simp only [Option.bind_eq_bind, Option.bind_some, idx_mat hc, idx_mat ha, idx_row hb, idx_row hc, set2_mat ha hb]
        by_cases k1 : F a c < 1099511627776
        · by_cases k2 : F c b < 1099511627776
          · simp [guardO, k1, k2, stp, hfar, idx_row hb]
          · simp [guardO, k1, k2, idx_row hb, stp_self c a b F (by omega)]
        · simp [guardO, k1, stp_self c a b F (by omega)]
      · show ((forM (ρ := (S_api_Span × Bool × Int)) 0 (n : Int) () _) >>= _) = _
        refine bnd (forM_test (N := n) (fun j => !decide (clF n T n j j < 0)) ((0, 0), false, 31) (by omega) fun j hj _ => ?_) ?_
        · refine bnd (idx_mat hj) (bnd (idx_row hj) ?_)
          show (if decide (clF n T n j j < 0) = true then _ else _) = _
          by_cases q : clF n T n j j < 0 <;> simp [q]
        · unfold ansT
          show (Out.elim (if noClash n T n = true then _ else _) _ _) = _
          cases noClash n T n with
          | false => rfl
          | true =>
            simp only [if_true, Out.elim]
            refine bnd (idx_mat ha) (bnd (idx_row hb) ?_)
            show (if decide (1099511627776 ≤ clF n T n a b) = true then _ else _) = _
            by_cases q : 1099511627776 ≤ clF n T n a b
            · rw [if_pos (by simpa using q), if_pos q]
            · rw [if_neg (by simpa using q), if_neg q]
              exact bnd (idx_mat ha) (bnd (idx_row hb) (bnd (idx_mat hb) (bnd (idx_row ha) rfl)))
  · rw [if_neg ht]
    have : ((!tellsB kn p4) || !(tellsB kn p4 && tellsB ps p5)) = true := by
      cases h1 : tellsB kn p4 <;> cases h2 : tellsB ps p5 <;> simp [h1, h2] at ht ⊢
    rw [if_pos this]
end
end Go.Proofs.Ytkbilbeaedocjaa
