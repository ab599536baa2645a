/-
  What is proved: what becomes of widths, costs, best lists, prices and fronts when a market is written otherwise.
-/
import Derived.Test.YtkbilbeaedocjaaKeepK
namespace Go.Proofs.Ytkbilbeaedocjaa
open Go Go.Proofs.Ytkbilbeaedocjaa.Wh
set_option maxRecDepth 100000

theorem picks_map (f : S_api_Offer → S_api_Offer) (of : List S_api_Offer) (l : List Nat) : picks (of.map f) l = (picks of l).map f := by
  unfold picks
  induction l with
  | nil => rfl
  | cons i l ih =>
    rw [List.filterMap_cons, List.filterMap_cons, List.getElem?_map, ih]
    cases of[i]? <;> rfl
theorem stp_tr {cs cs' : List S_api_Offer} {R R' : Nat → Nat → Int} {a b a' b' : Nat} (h : Steps cs R) (h' : Steps cs' R') (h1 : ∀ o ∈ cs, link o a b → ∃ o' ∈ cs', link o' a' b' ∧ o'.2.2.2 = o.2.2.2) (h2 : ∀ o' ∈ cs', link o' a' b' → ∃ o ∈ cs, link o a b ∧ o.2.2.2 = o'.2.2.2) : R' a' b' = R a b := by
  have f1 := h.far a b
  have f2 := h'.far a' b'
  have k1 : R' a' b' ≤ R a b := by
    rcases Int.lt_or_le (R a b) Wh.far with q | q
    · obtain ⟨o, ho, hl, hw⟩ := h.at_ a b q
      obtain ⟨o', ho', hl', e⟩ := h1 o ho hl
      have := h'.le o' ho' a' b' hl'
      omega
    · omega
  have k2 : R a b ≤ R' a' b' := by
    rcases Int.lt_or_le (R' a' b') Wh.far with q | q
    · obtain ⟨o, ho, hl, hw⟩ := h'.at_ a' b' q
      obtain ⟨o', ho', hl', e⟩ := h2 o ho hl
      have := h.le o' ho' a b hl'
      omega
    · omega
  omega
/-! ### what costs and widths decide -/
section
variable {n : Nat} {kn of kn' of' : List S_api_Offer}
theorem bestR_congr {q q' : Nat → Bool} (hl : of'.length = of.length) (hc : ∀ s t, s < 2 ^ of.length → t < 2 ^ of.length → bfS of' s t = bfS of s t) (hq : ∀ s, s < 2 ^ of.length → q' s = q s) : bestR of' q' = bestR of q := by
  unfold bestR
  rw [hl, (lst_congr (bf := bfS of') (bf' := bfS of) (q := q') (q' := q) hq hc).1]
theorem bfS_congr (hl : of'.length = of.length) (hc : ∀ s, cS of' s = cS of s) (s t : Nat) : bfS of' s t = bfS of s t := by
  unfold bfS
  rw [hc, hc, hl]
theorem mc_congr {q q' : Nat → Bool} (hl : of'.length = of.length) (hc : ∀ s, cS of' s = cS of s) (hq : ∀ s, q' s = q s) : ∀ N, mc of' q' N = mc of q N
  | 0 => rfl
  | N + 1 => by
    rw [mc_succ, mc_succ, mc_congr hl hc hq N, hq]
    have := hc N
    unfold cS at this
    rw [this]
theorem price_congr {a b a' b' : Nat} (hl : of'.length = of.length) (hc : ∀ s, cS of' s = cS of s) (hW : ∀ s, WdS n kn' of' s a' b' = WdS n kn of s a b) (w k : Int) : priceR n kn' of' a' b' w k = priceR n kn of a b w k := by
  unfold priceR
  rw [hl, hW, mc_congr (of := of) hl hc (q := qOff n kn of a b w k.toNat) (fun s => by unfold qOff; rw [hW]), mc_congr (of := of) hl hc (q := qOn n kn of a b w k.toNat) (fun s => by unfold qOn; rw [hW])]
theorem prs_congr {a b a' b' : Nat} (hc : ∀ s, cS of' s = cS of s) (hW : ∀ s, WdS n kn' of' s a' b' = WdS n kn of s a b) (j : Nat) : prs n kn' of' a' b' j = prs n kn of a b j := by
  unfold prs
  simp only [hc, hW]
theorem front_congr {a b a' b' : Nat} (hl : of'.length = of.length) (hc : ∀ s, cS of' s = cS of s) (hW : ∀ s, WdS n kn' of' s a' b' = WdS n kn of s a b) : frontS n kn' of' a' b' = frontS n kn of a b := by
  unfold frontS
  rw [hl, prs_congr hc hW]
end
/-! ### two clocks exchanged -/
def sw (x y c : Nat) : Nat := if c = x then y else if c = y then x else c
theorem sw_sw (x y c : Nat) : sw x y (sw x y c) = c := by
  unfold sw
  by_cases h1 : c = x <;> by_cases h2 : c = y <;> by_cases h3 : x = y <;> simp_all
theorem sw_lt {n x y c : Nat} (hx : x < n) (hy : y < n) (hc : c < n) : sw x y c < n := by
  unfold sw
  split
  · exact hy
  · split
    · exact hx
    · exact hc
def rn (x y : Nat) (o : S_api_Offer) : S_api_Offer := ((sw x y o.1.toNat : Nat), (sw x y o.2.1.toNat : Nat), o.2.2.1, o.2.2.2)
theorem okB_rn {n x y : Nat} {c : Int} (hx : x < n) (hy : y < n) {o : S_api_Offer} (h : okB (n : Int) c o = true) : okB (n : Int) c (rn x y o) = true := by
  unfold okB at h ⊢
  simp at h
  obtain ⟨⟨⟨⟨⟨⟨⟨⟨h1, h2⟩, h3⟩, h4⟩, h5⟩, h6⟩, h7⟩, h8⟩, h9⟩ := h
  have k1 := sw_lt hx hy (show o.1.toNat < n by omega)
  have k2 := sw_lt hx hy (show o.2.1.toNat < n by omega)
  have k3 : sw x y o.1.toNat ≠ sw x y o.2.1.toNat := fun e => by
    have := congrArg (sw x y) e
    rw [sw_sw, sw_sw] at this
    omega
  unfold rn
  simp
  omega
theorem link_rn {n x y : Nat} {c : Int} {o : S_api_Offer} (h : okB (n : Int) c o = true) {a b : Nat} (hl : link o a b) : link (rn x y o) (sw x y a) (sw x y b) := by
  unfold link at hl ⊢
  unfold rn
  rcases hl with ⟨h1, h2⟩ | ⟨h1, h2⟩
  · left; rw [h1, h2]; simp
  · right; rw [h1, h2]; simp
theorem rn_rn {n x y : Nat} {c : Int} {o : S_api_Offer} (h : okB (n : Int) c o = true) : rn x y (rn x y o) = o := by
  unfold okB at h
  simp at h
  obtain ⟨⟨⟨⟨⟨⟨⟨⟨h1, h2⟩, h3⟩, h4⟩, h5⟩, h6⟩, h7⟩, h8⟩, h9⟩ := h
  unfold rn
  simp only [Int.toNat_natCast, sw_sw]
  rw [show ((o.1.toNat : Nat) : Int) = o.1 by omega, show ((o.2.1.toNat : Nat) : Int) = o.2.1 by omega]
theorem stp_rn {n x y : Nat} {c : Int} {cs : List S_api_Offer} (hx : x < n) (hy : y < n) (h : ∀ o ∈ cs, okB (n : Int) c o = true) (a b : Nat) : Stp (cs.map (rn x y)) (sw x y a) (sw x y b) = Stp cs a b := by
  have h' : ∀ o ∈ cs.map (rn x y), okB (n : Int) c o = true := fun o ho => by
    obtain ⟨o1, h1, rfl⟩ := List.mem_map.1 ho
    exact okB_rn hx hy (h o1 h1)
  refine stp_tr (st_steps h) (st_steps h') (fun o ho hl => ⟨rn x y o, List.mem_map.2 ⟨o, ho, rfl⟩, link_rn (h o ho) hl, rfl⟩) fun o' ho' hl => ?_
  obtain ⟨o, ho, rfl⟩ := List.mem_map.1 ho'
  refine ⟨o, ho, ?_, rfl⟩
  have := link_rn (x := x) (y := y) (h' _ ho') hl
  rwa [rn_rn (h o ho), sw_sw, sw_sw] at this
theorem wd_rn {n x y : Nat} {c : Int} {cs : List S_api_Offer} (hx : x < n) (hy : y < n) (h : ∀ o ∈ cs, okB (n : Int) c o = true) {a b : Nat} (ha : a < n) (hb : b < n) : Wd n (cs.map (rn x y)) (sw x y a) (sw x y b) = Wd n cs a b := by
  have h' : ∀ o ∈ cs.map (rn x y), okB (n : Int) c o = true := fun o ho => by
    obtain ⟨o1, h1, rfl⟩ := List.mem_map.1 ho
    exact okB_rn hx hy (h o1 h1)
  have c1 := wd_cl h
  have c2 := wd_cl h'
  have lt := fun {k : Nat} (hk : k < n) => sw_lt hx hy hk
  have k1 := c1.lb (E := fun a b => Wd n (cs.map (rn x y)) (sw x y a) (sw x y b)) (fun a b ha hb => by have := c2.le _ _ (lt ha) (lt hb); rwa [stp_rn hx hy h] at this)
    (fun a ha => Int.le_of_eq (c2.zero _ (lt ha))) (fun a b c ha hb hc => c2.tri _ _ _ (lt ha) (lt hb) (lt hc)) (fun a b ha hb => c2.far _ _ (lt ha) (lt hb)) ha hb
  have k2 := c2.lb (E := fun a b => Wd n cs (sw x y a) (sw x y b)) (fun a b ha hb => by
      have := c1.le _ _ (lt ha) (lt hb)
      have e := stp_rn hx hy h (sw x y a) (sw x y b)
      rw [sw_sw, sw_sw] at e
      rwa [e]) (fun a ha => Int.le_of_eq (c1.zero _ (lt ha))) (fun a b c ha hb hc => c1.tri _ _ _ (lt ha) (lt hb) (lt hc)) (fun a b ha hb => c1.far _ _ (lt ha) (lt hb)) (lt ha) (lt hb)
  simp only [sw_sw] at k1 k2
  omega
theorem costF_map (f : S_api_Offer → S_api_Offer) (hf : ∀ o, (f o).2.2.1 = o.2.2.1) (of : List S_api_Offer) (l : List Nat) : costF (of.map f) l = costF of l := by
  unfold costF
  rw [picks_map, List.foldl_map]
  simp only [hf]
section
variable {n : Nat} {kn of : List S_api_Offer} (hm : Ok n kn of)
include hm
theorem Ok.swapped {x y : Nat} (hx : x < n) (hy : y < n) : Ok n (kn.map (rn x y)) (of.map (rn x y)) := by
  refine ⟨hm.n2, hm.n8, by rw [List.length_map]; exact hm.lk, by rw [List.length_map]; exact hm.lo, fun o ho => ?_, fun o ho => ?_⟩
  · obtain ⟨o1, h1, rfl⟩ := List.mem_map.1 ho
    exact okB_rn hx hy (hm.k o1 h1)
  · obtain ⟨o1, h1, rfl⟩ := List.mem_map.1 ho
    exact okB_rn hx hy (hm.o o1 h1)
theorem Ok.valid : validB ((n : Int), kn, of) = true := by
  have := hm.n2; have := hm.n8; have := hm.lk; have := hm.lo
  unfold validB
  simp only [Bool.and_eq_true, decide_eq_true_eq, List.all_eq_true]
  exact ⟨⟨⟨⟨⟨by omega, by omega⟩, hm.lk⟩, by omega⟩, hm.k⟩, hm.o⟩
theorem Ok.all_okB {l : List Nat} : ∀ o ∈ kn ++ picks of l, okB (n : Int) 10000 o = true := by
  intro o ho
  rcases List.mem_append.1 ho with ho | ho
  · exact okB_mono (hm.k o ho) (by omega)
  · obtain ⟨i, _, hi⟩ := mem_picks.1 ho
    exact hm.o o (List.mem_of_getElem? hi)
theorem Ok.wdS_rn {x y : Nat} (hx : x < n) (hy : y < n) (s : Nat) {a b : Nat} (ha : a < n) (hb : b < n) : WdS n (kn.map (rn x y)) (of.map (rn x y)) s (sw x y a) (sw x y b) = WdS n kn of s a b := by
  unfold WdS
  rw [picks_map, ← List.map_append, List.length_map]
  exact wd_rn hx hy hm.all_okB ha hb
omit hm in
theorem cS_rn (x y s : Nat) : cS (of.map (rn x y)) s = cS of s := by
  unfold cS
  rw [costF_map (rn x y) (fun _ => rfl), List.length_map]
end
end Go.Proofs.Ytkbilbeaedocjaa
