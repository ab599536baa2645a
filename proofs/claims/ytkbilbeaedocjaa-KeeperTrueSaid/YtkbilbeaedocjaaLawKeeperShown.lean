/-
  What is proved: for every input there is a fuel with which the model of KeeperShown returns true.
-/
import Derived.Test.YtkbilbeaedocjaaKeepR
import Derived.Test.YtkbilbeaedocjaaLawKeeperPrices
namespace Go.Proofs.Ytkbilbeaedocjaa
open Go Go.Proofs.Ytkbilbeaedocjaa.Wh
set_option maxRecDepth 100000

theorem known_same {m : S_api_Market} (hf : m.2.2.length ≤ 6 ∨ 12 < m.2.2.length) {l : List Int} (hl : l.length ≤ 100) (a b : Int) {p4 p5 : List S_api_Span} (h4 : p4.length ≤ 100) (h5 : p5.length ≤ 100) : ∃ r, M.f61 m l a b p4 p5 = some r ∧ M.f62 1000 m l a b p4 p5 = some r := by
  by_cases hc : codeQ m l [a, b] [] = 0
  · obtain ⟨n, kn, of, s, rfl, hm, hs, rfl, h3, _⟩ := asked_cases hf hc
    simp only [List.all_cons, List.all_nil, Bool.and_true, Bool.and_eq_true] at h3
    obtain ⟨a, rfl, ha⟩ := clock_nat h3.1
    obtain ⟨b, rfl, hb⟩ := clock_nat h3.2
    refine ⟨_, hm.f61 ha hb hc h4 h5, ?_⟩
    rw [hm.f62 ha hb hc h4 h5]
    by_cases ht : (tellsB kn p4 && tellsB (picks of (sel of.length s)) p5) = true
    · rw [if_pos ht, if_pos ht]
      rw [tells_both] at ht
      simp only [Bool.and_eq_true] at ht
      rw [ans_same hm.n8 (okE_all hm.okB ht.2) ha hb]
    · rw [if_neg ht, if_neg ht]
  · have e : codeQ m l [a, b] [0] = codeQ m l [a, b] [] := by unfold codeQ; rfl
    refine ⟨((0, 0), false, codeQ m l [a, b] []), ?_, ?_⟩
    · unfold M.f61
      refine bnd (f76_eqQ _ _ _ _ (by omega) (by simp) (by simp)) ?_
      rw [if_pos (by simpa using hc)]
    · unfold M.f62
      refine bnd (f72_eqQ _ _ _ _ (by omega) (by simp)) ?_
      rw [e, if_pos (by simpa using hc)]
theorem zip_map_self {α β : Type} (f : α → β) : ∀ l : List α, l.zip (l.map f) = l.map fun o => (o, f o)
  | [] => rfl
  | x :: l => by simp [zip_map_self f l]
structure Pot (n : Nat) (W : Tb) (a : Nat) (o : S_api_Offer) : Prop where
  lo : (spn W a o).1 = if pot W a o.2.1.toNat - pot W a o.1.toNat < 0 then pot W a o.2.1.toNat - pot W a o.1.toNat else 0
  hi : (spn W a o).2 = (spn W a o).1 + o.2.2.2
  up : pot W a o.2.1.toNat - pot W a o.1.toNat ≤ o.2.2.2
  dn : -o.2.2.2 ≤ pot W a o.2.1.toNat - pot W a o.1.toNat
  bd : -7340032 ≤ pot W a o.2.1.toNat - pot W a o.1.toNat
section
variable {n : Nat} {kn of : List S_api_Offer} (hm : Ok n kn of)
include hm
theorem Ok.potB {s a : Nat} (ha : a < n) {c : Nat} (hc : c < n) : 0 ≤ pot (WdS n kn of s) a c ∧ pot (WdS n kn of s) a c ≤ 7340032 ∧ (WdS n kn of s a c < 1099511627776 → WdS n kn of s a c ≤ 7340032) := by
  have hok := hm.okB (l := sel of.length s)
  have hcl : Cl n (Stp (kn ++ picks of (sel of.length s))) (WdS n kn of s) := wd_cl hok
  have hs := st_steps hok
  have h8 := hm.n8
  have hb : WdS n kn of s a c < 1099511627776 → WdS n kn of s a c ≤ 7340032 := fun h => by
    have := hcl.bound (M := 1048576) (by omega) (fun x y _ _ hlt => by
      obtain ⟨o, ho, _, hw⟩ := hs.at_ x y hlt
      have := hok o ho
      unfold Go.Proofs.Ytkbilbeaedocjaa.okB at this
      simp at this
      omega) ha hc h
    omega
  have := hcl.nonneg a c ha hc
  unfold pot
  split <;> omega
theorem Ok.pots {s a : Nat} (ha : a < n) {o : S_api_Offer} (ho : o ∈ kn ++ picks of (sel of.length s)) : Pot n (WdS n kn of s) a o := by
  have hok := hm.okB (l := sel of.length s)
  have hcl : Cl n (Stp (kn ++ picks of (sel of.length s))) (WdS n kn of s) := wd_cl hok
  have hs := st_steps hok
  have hk := hok o ho
  unfold Go.Proofs.Ytkbilbeaedocjaa.okB at hk
  simp at hk
  obtain ⟨⟨⟨⟨⟨⟨⟨⟨h1, h2⟩, h3⟩, h4⟩, h5⟩, h6⟩, h7⟩, h8⟩, h9⟩ := hk
  generalize hA : o.1.toNat = A
  generalize hB : o.2.1.toNat = B
  have hAn : A < n := by omega
  have hBn : B < n := by omega
  have hl : link o A B := .inl ⟨by omega, by omega⟩
  have s1 := hs.le o ho A B hl
  have s2 := hs.le o ho B A hl.symm
  have t1 := hcl.tri a A B ha hAn hBn
  have t2 := hcl.tri a B A ha hBn hAn
  have u1 := hcl.le A B hAn hBn
  have u2 := hcl.le B A hBn hAn
  have b1 := hm.potB (s := s) ha hAn
  have b2 := hm.potB (s := s) ha hBn
  have key : pot (WdS n kn of s) a B - pot (WdS n kn of s) a A ≤ o.2.2.2 ∧ -o.2.2.2 ≤ pot (WdS n kn of s) a B - pot (WdS n kn of s) a A := by
    unfold pot at *
    split at b1 <;> split at b2 <;> rename_i q1 q2 <;> simp only [q1, q2, if_true, if_false] <;> omega
  have e : (spn (WdS n kn of s) a o).1 = if pot (WdS n kn of s) a B - pot (WdS n kn of s) a A < 0 then pot (WdS n kn of s) a B - pot (WdS n kn of s) a A else 0 := by
    unfold spn
    simp only [hA, hB]
    rw [wr_id (by omega) (by omega), imin_eq]
  refine ⟨by rw [hA, hB]; exact e, ?_, by rw [hA, hB]; exact key.1, by rw [hA, hB]; exact key.2, by rw [hA, hB]; omega⟩
  show wr ((spn (WdS n kn of s) a o).1 + o.2.2.2) = _
  rw [e]
  split <;> rw [wr_id (by omega) (by omega)]
theorem Ok.shown {s a b : Nat} (ha : a < n) (hb : b < n) (hc : codeQ ((n : Int), kn, of) (cst (sel of.length s)) [(a : Int), (b : Int)] [] = 0) (hW : WdS n kn of s a b < 1099511627776) :
    ∃ lo hi, M.f62 1000 ((n : Int), kn, of) (cst (sel of.length s)) a b (kn.map (spn (WdS n kn of s) a)) ((picks of (sel of.length s)).map (spn (WdS n kn of s) a)) = some ((lo, hi), true, 0) ∧ wr (hi - lo) = WdS n kn of s a b := by
  have h6 := hm.lo; have hk := hm.lk
  have h7 := sel_len of.length s
  have hpl := picks_length (of := of) (l := sel of.length s) fun i hi => sel_lt hi
  have hokB := hm.okB (l := sel of.length s)
  have hpots := fun o ho => hm.pots (s := s) ha (o := o) ho
  have hpb := fun c hc => hm.potB (s := s) ha (c := c) hc
  have hwk : ∀ o ∈ kn ++ picks of (sel of.length s), 0 ≤ o.2.2.2 ∧ o.2.2.2 ≤ 1048576 := fun o ho => by
    have := hokB o ho
    unfold Go.Proofs.Ytkbilbeaedocjaa.okB at this
    simp at this
    omega
  have hzero : WdS n kn of s a a = 0 := (wd_cl hokB).zero a ha
  rw [hm.f62 ha hb hc (by rw [List.length_map]; omega) (by rw [List.length_map]; omega)]
  have hall : (((kn ++ picks of (sel of.length s)).zip (kn.map (spn (WdS n kn of s) a) ++ (picks of (sel of.length s)).map (spn (WdS n kn of s) a))).all fun e => okS e.1 e.2) = true := by
    rw [← List.map_append, zip_map_self, List.all_eq_true]
    intro e he
    obtain ⟨o, ho, rfl⟩ := List.mem_map.1 he
    have hp := hpots o ho
    have := hwk o ho
    have h1 := hp.lo; have h2 := hp.bd
    show okS o (spn (WdS n kn of s) a o) = true
    unfold okS
    have e2 : (spn (WdS n kn of s) a o).2 = wr ((spn (WdS n kn of s) a o).1 + o.2.2.2) := rfl
    have e3 : -7340032 ≤ (spn (WdS n kn of s) a o).1 ∧ (spn (WdS n kn of s) a o).1 ≤ 0 := by rw [h1]; split <;> omega
    rw [e2]
    simp
    omega
  rw [tells_both, List.length_map, List.length_map, hall]
  simp only [decide_true, Bool.and_self, if_true]
  have hE := okE_all hokB hall
  rw [← List.map_append, zip_map_self] at hE ⊢
  have hmem : ∀ e ∈ (kn ++ picks of (sel of.length s)).map (fun o => (o, spn (WdS n kn of s) a o)), ∃ o, o ∈ kn ++ picks of (sel of.length s) ∧ e = (o, spn (WdS n kn of s) a o) := fun e he => by
    obtain ⟨o, ho, rfl⟩ := List.mem_map.1 he
    exact ⟨o, ho, rfl⟩
  obtain ⟨lo, hi, k1, k2, k3, k4, k5, k6⟩ := ans_width (q := pot (WdS n kn of s) a) hm.n8 hE hokB (fun o ho => ⟨(o, spn (WdS n kn of s) a o), List.mem_map.2 ⟨o, ho, rfl⟩, rfl⟩)
    (fun x y hx hy => by have := hpb x hx; have := hpb y hy; omega)
    (fun e he => by
      obtain ⟨o, ho, rfl⟩ := hmem e he
      have hp := hpots o ho
      have := hwk o ho
      have h1 := hp.lo; have h2 := hp.hi; have h3 := hp.up; have h4 := hp.dn
      show pot (WdS n kn of s) a o.2.1.toNat - pot (WdS n kn of s) a o.1.toNat ≤ (spn (WdS n kn of s) a o).2 ∧ (spn (WdS n kn of s) a o).1 ≤ pot (WdS n kn of s) a o.2.1.toNat - pot (WdS n kn of s) a o.1.toNat
      rw [h2, h1]
      split <;> omega)
    (fun e he => by
      obtain ⟨o, ho, rfl⟩ := hmem e he
      have hp := hpots o ho
      have := hwk o ho
      have h1 := hp.lo; have h2 := hp.hi; have h3 := hp.up; have h4 := hp.dn
      show 0 ≤ (spn (WdS n kn of s) a o).2 ∧ (spn (WdS n kn of s) a o).1 ≤ 0
      rw [h2, h1]
      split <;> omega) ha hb hW (by unfold pot; rw [hzero]; rfl) (by unfold pot; rw [if_neg (by omega)]; rfl)
  refine ⟨lo, hi, by rw [k1], ?_⟩
  rw [wr_id (by omega) (by omega)]
  exact k2
end
theorem law_KeeperShown (p0 : S_api_Market) (p1 : List Int) (p2 p3 : Int) (p4 p5 : List S_api_Span) : ∃ fuel, M.f13 fuel p0 p1 p2 p3 p4 p5 = some true := by
  refine ⟨1000, ?_⟩
  unfold M.f13
  refine bnd sane_ok ?_
  simp only [Bool.not_true, Bool.false_eq_true, if_false]
  refine bnd rfl ?_
  by_cases hf : (((decide ((p0.2.2.length : Int) ≤ 6)) || ((decide (12 < (p0.2.2.length : Int))) && (decide ((p0.2.2.length : Int) ≤ 20)))) && (decide ((p0.2.1.length : Int) ≤ 30))) = true
  · have hf' : p0.2.2.length ≤ 6 ∨ 12 < p0.2.2.length := by simp at hf; omega
    rw [hf]
    refine bnd (y := decide (p1.length ≤ 100)) (by rw [short_eq _ (by simp)]; simp [guardO]) ?_
    by_cases hs : p1.length ≤ 100 ∧ p4.length ≤ 100 ∧ p5.length ≤ 100
    · rw [if_neg (by simp; omega)]
      obtain ⟨x, h1, h2⟩ := known_same hf' hs.1 p2 p3 hs.2.1 hs.2.2
      refine bnd h1 (bnd h2 ?_)
      rw [if_neg (by simp)]
      by_cases hc : codeQ p0 p1 [p2, p3] [] = 0
      · obtain ⟨n, kn, of, s, rfl, hm, hss, rfl, h3, _⟩ := asked_cases hf' hc
        simp only [List.all_cons, List.all_nil, Bool.and_true, Bool.and_eq_true] at h3
        obtain ⟨a, rfl, ha⟩ := clock_nat h3.1
        obtain ⟨b, rfl, hb⟩ := clock_nat h3.2
        have h6 := hm.lo; have hk := hm.lk
        have h7 := sel_len of.length s
        have hpl := picks_length (of := of) (l := sel of.length s) fun i hi => sel_lt hi
        refine bnd (hm.f63 hss ha hb hc) (bnd (hm.f56 ha hb hc) ?_)
        unfold widthR
        by_cases q : 1099511627776 ≤ WdS n kn of s a b
        · rw [if_pos q, if_pos q]; rfl
        · rw [if_neg q, if_neg q]
          rw [if_neg (by simp), if_neg (by simp), if_neg (by simp; omega)]
          obtain ⟨lo, hi, k1, k2⟩ := hm.shown ha hb hc (by omega)
          refine bnd k1 ?_
          simp [k2]
      · have e : codeQ p0 p1 [p2, p3] [0] = codeQ p0 p1 [p2, p3] [] := by unfold codeQ; rfl
        refine bnd (y := ([], [], codeQ p0 p1 [p2, p3] [])) ?_ (bnd (y := (0, false, codeQ p0 p1 [p2, p3] [])) ?_ ?_)
        · unfold M.f63
          refine bnd (f76_eqQ _ _ _ _ (by omega) (by simp) (by simp)) ?_
          rw [if_pos (by simpa using hc)]
        · unfold M.f56
          refine bnd (f72_eqQ _ _ _ _ (by omega) (by simp)) ?_
          rw [e, if_pos (by simpa using hc)]
        · rw [if_pos (by simpa using hc)]
          simp
    · rw [if_pos (by simp; omega)]
  · rw [Bool.not_eq_true] at hf
    rw [hf]
    rfl
end Go.Proofs.Ytkbilbeaedocjaa
