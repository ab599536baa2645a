/-
  What is proved: prices: keeper and the specification agree.
-/
import Derived.Test.YtkbilbeaedocjaaKeepE
namespace Go.Proofs.Ytkbilbeaedocjaa
open Go Go.Proofs.Ytkbilbeaedocjaa.Wh

theorem f125_eq (x y : Int) : M.f125 x y = some (if x < y then -1 else if y < x then 1 else 0) := by
  have h : ∀ z, M.f131 z = some false := fun z => by unfold M.f131; simp
  unfold M.f125
  simp only [h, Option.bind_eq_bind, Option.bind_some, Bool.false_eq_true, if_false, decide_eq_true_eq]
  split
  · rfl
  · split <;> rfl
theorem f94_some (l l' : List Int) (h1 : l.length ≤ 4096) : ∃ r, M.f94 l l' = some r := by
  unfold M.f94
  obtain ⟨o, e1, _⟩ := forM_inv (N := l.length) (s := ()) (f := fun i_1 (s_3 : Unit) => (idx l i_1) >>= fun v_7 => (if (decide ((l'.length : Int) ≤ i_1)) = true then (some (.leave 1)) else ((idx l' i_1) >>= fun v_9 => (M.f125 v_7 v_9) >>= fun v_11 => (if (v_11 != 0) = true then (some (.leave v_11)) else (some (.again ()) : Option (Out Unit Int))))))
    (fun _ _ => True) (fun _ => True) (by omega) trivial fun j s hj _ => by
      have hx := List.getElem?_eq_getElem hj
      simp only [idx_nat, hx, Option.bind_eq_bind, Option.bind_some]
      by_cases hl : (l'.length : Int) ≤ (j : Int)
      · exact ⟨.leave 1, by rw [if_pos (by simpa using hl)], trivial⟩
      · have hj' : j < l'.length := by omega
        rw [List.getElem?_eq_getElem hj']
        simp only [Option.bind_some, f125_eq]
        rw [if_neg (by simpa using hl)]
        generalize (if l[j] < l'[j] then (-1 : Int) else if l'[j] < l[j] then 1 else 0) = q
        by_cases hq : (q != 0) = true
        · exact ⟨.leave q, by rw [if_pos hq], trivial⟩
        · exact ⟨.again (), by rw [if_neg hq], trivial⟩
  rw [e1]
  cases o with
  | again s => simp only [Option.bind_eq_bind, Option.bind_some, Out.elim]; split <;> exact ⟨_, rfl⟩
  | leave r => exact ⟨r, rfl⟩
theorem f124_three (a b c : Int) : ∃ r, M.f124 [a, b, c] = some r ∧ (a ≠ 0 → r = a) := by
  unfold M.f124
  simp only [Wh.forM, List.length_cons, List.length_nil, idx, Out.elim]
  have n3 : ((((0 + 1 + 1 + 1 : Nat) : Int) - 0).toNat) = 3 := rfl
  simp only [n3, forFrom]
  by_cases ha : a = 0
  · by_cases hb : b = 0
    · by_cases hc : c = 0
      · exact ⟨0, by simp [ha, hb, hc], fun h => absurd ha h⟩
      · exact ⟨c, by simp [ha, hb, hc], fun h => absurd ha h⟩
    · exact ⟨b, by simp [ha, hb], fun h => absurd ha h⟩
  · exact ⟨a, by simp [ha], fun _ => rfl⟩
theorem f117_eq (x y : Int) (s t : Nat) : ∃ r, M.f117 (true, x, (s : Int)) (true, y, (t : Int)) = some r ∧ (x < y → r = true) ∧ (y < x → r = false) := by
  have hl := sel_len 12 s
  obtain ⟨u, hu⟩ := f94_some (cst (sel 12 s)) (cst (sel 12 t)) (by rw [cst_length]; omega)
  obtain ⟨r, h1, h2⟩ := f124_three (if x < y then -1 else if y < x then 1 else 0) (if ((cst (sel 12 s)).length : Int) < ((cst (sel 12 t)).length : Int) then -1 else if ((cst (sel 12 t)).length : Int) < ((cst (sel 12 s)).length : Int) then 1 else 0) u
  refine ⟨decide (r < 0), ?_, fun h => ?_, fun h => ?_⟩
  · unfold M.f117
    exact bnd (f118_eq s) (bnd (f118_eq t) (bnd (f125_eq _ _) (bnd (f125_eq _ _) (bnd hu (bnd h1 rfl)))))
  · rw [if_pos h] at h2
    rw [h2 (by decide)]; rfl
  · rw [if_neg (by omega), if_pos h] at h2
    rw [h2 (by decide)]; rfl
theorem cost_fold : ∀ (xs : List S_api_Offer) (c : Int) (K : Nat), (∀ o ∈ xs, 0 ≤ o.2.2.1 ∧ o.2.2.1 ≤ 10000) → 0 ≤ c → c ≤ 10000 * (K : Int) → K + xs.length ≤ 1000 → 0 ≤ xs.foldl (fun c o => wr (c + o.2.2.1)) c ∧ xs.foldl (fun c o => wr (c + o.2.2.1)) c ≤ 10000 * ((K + xs.length : Nat) : Int)
  | [], c, K, _, h0, h1, _ => ⟨h0, by simpa using h1⟩
  | o :: xs, c, K, h, h0, h1, hl => by
    have ho := h o (by simp)
    simp only [List.length_cons] at hl ⊢
    rw [List.foldl_cons, wr_id (by omega) (by omega)]
    have := cost_fold xs (c + o.2.2.1) (K + 1) (fun o ho => h o (by simp [ho])) (by omega) (by omega) (by omega)
    rw [show K + 1 + xs.length = K + (xs.length + 1) from by omega] at this
    exact this
section
variable {n : Nat} {kn of : List S_api_Offer} (hm : Ok n kn of)
include hm
theorem cost_lt (s : Nat) : costF of (sel of.length s) < 1099511627776 := by
  have h1 := sel_len of.length s
  have h2 := picks_len of (sel of.length s)
  have h3 := hm.lo
  have := (cost_fold (picks of (sel of.length s)) 0 0 (fun o ho => by
    unfold picks at ho
    obtain ⟨i, _, hi⟩ := List.mem_filterMap.1 ho
    have := hm.o o (List.mem_of_getElem? hi)
    unfold okB at this
    simp at this
    omega) (by omega) (by omega) (by omega)).2
  unfold costF
  omega
omit hm in
theorem imin_lt {a b : Int} (h : b < a) : imin a b = b := by unfold imin; rw [if_pos h]
omit hm in
theorem imin_ge {a b : Int} (h : a ≤ b) : imin a b = a := by unfold imin; rw [if_neg (by omega)]
/-- The least cost of those that do what is wanted. -/
def mcG (of : List S_api_Offer) (q : Nat → Bool) (s : Nat) (acc : Int) : Int := if q s = true then imin acc (costF of (sel of.length s)) else acc
def mc (of : List S_api_Offer) (q : Nat → Bool) (j : Nat) : Int := itr (mcG of q) j 1099511627776
omit hm in
theorem mc_succ (q : Nat → Bool) (j : Nat) : mc of q (j + 1) = if q j = true then imin (mc of q j) (costF of (sel of.length j)) else mc of q j := rfl
theorem f78_eq {P : Int → Option Bool} {q : Nat → Bool} (hP : ∀ s : Nat, s < 2 ^ of.length → P (s : Int) = some (q s)) :
    ∃ ch, M.f78 (P, ()) ((n : Int), kn, of) = some ch ∧ ((ch = (false, 0, 0) ∧ mc of q (2 ^ of.length) = 1099511627776 ∧ ∀ s, s < 2 ^ of.length → q s = false) ∨ (∃ t : Nat, ch = (true, mc of q (2 ^ of.length), (t : Int)) ∧ mc of q (2 ^ of.length) < 1099511627776)) := by
  have hp := hm.pow
  unfold M.f78
  obtain ⟨ch, e1, e2⟩ := forS_inv (N := 2 ^ of.length) (s := ((false, 0, 0) : S_keeper_choice)) (f := fun i_4 (s_6 : S_keeper_choice) =>
    (M.f82 i_4 ((n : Int), kn, of)) >>= fun v_10 =>
    (guardO (!(s_6 == ((false, 0, 0) : S_keeper_choice))) (M.f117 ((true, v_10, i_4) : S_keeper_choice) s_6)) >>= fun v_12 =>
    (guardO ((s_6 == ((false, 0, 0) : S_keeper_choice)) || v_12) (P i_4)) >>= fun v_14 =>
    (if (((s_6 == ((false, 0, 0) : S_keeper_choice)) || v_12) && v_14) = true then (
    some ((true, v_10, i_4) : S_keeper_choice))
    else (
    some s_6)) >>= fun y_17 =>
    some y_17)
    (fun j ch => (ch = (false, 0, 0) ∧ mc of q j = 1099511627776 ∧ ∀ s, s < j → q s = false) ∨ (∃ t : Nat, ch = (true, mc of q j, (t : Int)) ∧ mc of q j < 1099511627776)) (by omega) (.inl ⟨rfl, rfl, fun s h => by omega⟩) fun j ch hj hI => by
      have hc := cost_lt hm j
      rcases hI with ⟨rfl, h1, h2⟩ | ⟨t, rfl, h1⟩
      · refine ⟨if q j = true then (true, costF of (sel of.length j), (j : Int)) else (false, 0, 0), ?_, ?_⟩
        · refine bnd (hm.f82 hj) ?_
          simp only [beq_self_eq_true, Bool.not_true, guardO, Option.bind_eq_bind, Option.bind_some, Bool.true_or, hP j hj, Bool.true_and]
          cases q j <;> rfl
        · rw [mc_succ, h1]
          cases hq : q j with
          | true =>
            refine .inr ⟨j, ?_, ?_⟩
            · rw [if_pos rfl, if_pos rfl, imin_lt hc]
            · rw [if_pos rfl, imin_lt hc]; exact hc
          | false =>
            exact .inl ⟨by simp, by simp, fun s hs => by
              by_cases e : s = j
              · subst e; exact hq
              · exact h2 s (by omega)⟩
      · obtain ⟨r, e1, e2, e3⟩ := f117_eq (costF of (sel of.length j)) (mc of q j) j t
        have hz : (((true, mc of q j, (t : Int)) : S_keeper_choice) == ((false, 0, 0) : S_keeper_choice)) = false := rfl
        refine ⟨if (r && q j) = true then (true, costF of (sel of.length j), (j : Int)) else (true, mc of q j, (t : Int)), ?_, ?_⟩
        · refine bnd (hm.f82 hj) ?_
          simp only [hz, Bool.not_false, guardO, Option.bind_eq_bind, Option.bind_some, Bool.false_or, e1]
          cases r with
          | false => rfl
          | true =>
            simp only [hP j hj, Option.bind_some, Bool.true_and]
            cases q j <;> rfl
        · rw [mc_succ]
          refine .inr ?_
          cases hr : r with
          | false =>
            have hle : mc of q j ≤ costF of (sel of.length j) := by
              rcases Int.lt_or_le (costF of (sel of.length j)) (mc of q j) with h | h
              · rw [e2 h] at hr; cases hr
              · exact h
            simp only [Bool.false_and, Bool.false_eq_true, if_false]
            refine ⟨t, ?_, ?_⟩
            · rw [imin_ge hle]; split <;> rfl
            · rw [imin_ge hle]; split <;> exact h1
          | true =>
            have hle : costF of (sel of.length j) ≤ mc of q j := by
              rcases Int.lt_or_le (mc of q j) (costF of (sel of.length j)) with h | h
              · rw [e3 h] at hr; cases hr
              · exact h
            have hi : imin (mc of q j) (costF of (sel of.length j)) = costF of (sel of.length j) := by
              unfold imin; split
              · rfl
              · omega
            cases hq : q j with
            | true =>
              simp only [Bool.true_and, if_true, hi]
              exact ⟨j, rfl, hc⟩
            | false =>
              simp only [Bool.and_false, Bool.false_eq_true, if_false]
              exact ⟨t, rfl, h1⟩
  exact ⟨ch, bnd hm.shl (bnd e1 rfl), e2⟩
def qOn (n : Nat) (kn of : List S_api_Offer) (a b : Nat) (w : Int) (k s : Nat) : Bool := s.testBit k && decide (WdS n kn of s a b ≤ w)
def qOff (n : Nat) (kn of : List S_api_Offer) (a b : Nat) (w : Int) (k s : Nat) : Bool := !s.testBit k && decide (WdS n kn of s a b ≤ w)
def priceR (n : Nat) (kn of : List S_api_Offer) (a b : Nat) (w k : Int) : Int × Bool × Int :=
  if 0 ≤ k ∧ k < (of.length : Int) then
    if WdS n kn of (2 ^ of.length - 1) a b ≤ w then
      if 1099511627776 ≤ mc of (qOff n kn of a b w k.toNat) (2 ^ of.length) then (0, false, 0)
      else (wr (mc of (qOff n kn of a b w k.toNat) (2 ^ of.length) - mc of (qOn n kn of a b w k.toNat) (2 ^ of.length)), true, 0)
    else (0, false, 4)
  else (0, false, 1)
omit hm in
theorem bit_zero {v i : Nat} : (band ((v / 2 ^ i : Nat) : Int) 1 == 0) = !v.testBit i := by
  rw [← bit_of, band_one]
  have h : v / 2 ^ i % 2 < 2 := Nat.mod_lt _ (by decide)
  generalize v / 2 ^ i % 2 = q at *
  have : q = 0 ∨ q = 1 := by omega
  rcases this with rfl | rfl <;> rfl
omit hm in
theorem mc_lt {q : Nat → Bool} {N s : Nat} (hs : s < N) (hq : q s = true) (hc : ∀ j, costF of (sel of.length j) < 1099511627776) : mc of q N < 1099511627776 := by
  have le : ∀ k, mc of q k ≤ 1099511627776 := by
    intro k
    induction k with
    | zero => exact Int.le_refl _
    | succ k ih =>
      rw [mc_succ]
      have := hc k
      split
      · unfold imin; split <;> omega
      · exact ih
  induction N with
  | zero => omega
  | succ N ih =>
    rw [mc_succ]
    by_cases e : s = N
    · subst e
      rw [if_pos hq]
      have := hc s
      have := le s
      unfold imin; split <;> omega
    · have h1 := ih (by omega)
      have h2 := hc N
      split
      · unfold imin; split <;> omega
      · exact h1
theorem f20_eq {a b : Nat} (ha : a < n) (hb : b < n) {w : Int} (hc : code ((n : Int), kn, of) a b w = 0) (k : Int) : M.f20 ((n : Int), kn, of) a b w k = some (priceR n kn of a b w k) := by
  have hp := hm.pos
  have h6 := hm.lo
  unfold M.f20 priceR
  refine bnd (f76_eq _ _ _ _) ?_
  rw [hc]
  simp only [bne_self_eq_false, Bool.false_eq_true, if_false]
  by_cases hk : 0 ≤ k ∧ k < (of.length : Int)
  · rw [if_pos hk]
    have h0 : (decide (k < 0) || decide ((of.length : Int) ≤ k)) = false := by simp; omega
    rw [if_neg (by show ¬ (decide (k < 0) || decide ((of.length : Int) ≤ k)) = true; rw [h0]; simp)]
    refine bnd (f69_eq hm ha hb hc) ?_
    by_cases hr : WdS n kn of (2 ^ of.length - 1) a b ≤ w
    · rw [if_pos hr, if_pos hr]
      simp only [bne_self_eq_false, Bool.false_eq_true, if_false]
      obtain ⟨k', rfl⟩ : ∃ k' : Nat, k = (k' : Int) := ⟨k.toNat, by omega⟩
      simp only [Int.toNat_natCast]
      have hk' : k' < of.length := by omega
      have hs1 : ∀ s : Nat, s < 2 ^ of.length → M.f77 (s : Int) (k' : Int) (((fun x0 => M.f116 x0 ((n : Int), kn, of) a b w) : (Int → Option Bool)), ()) = some (qOn n kn of a b w k' s) := fun s hs => by
        unfold M.f77 qOn
        refine bnd (shr_nat (by omega)) ?_
        rw [bit_of]
        cases hq : s.testBit k' with
        | false => rfl
        | true => exact bnd (hm.f116 hs ha hb w) rfl
      have hs2 : ∀ s : Nat, s < 2 ^ of.length → M.f79 (s : Int) (k' : Int) (((fun x0 => M.f116 x0 ((n : Int), kn, of) a b w) : (Int → Option Bool)), ()) = some (qOff n kn of a b w k' s) := fun s hs => by
        unfold M.f79 qOff
        refine bnd (shr_nat (by omega)) ?_
        rw [bit_zero]
        cases hq : s.testBit k' with
        | true => rfl
        | false => exact bnd (hm.f116 hs ha hb w) rfl
      obtain ⟨c1, e1, h1⟩ := f78_eq hm (P := fun x0 => M.f77 x0 (k' : Int) (((fun x0 => M.f116 x0 ((n : Int), kn, of) a b w) : (Int → Option Bool)), ())) hs1
      obtain ⟨c2, e2, h2⟩ := f78_eq hm (P := fun x0 => M.f79 x0 (k' : Int) (((fun x0 => M.f116 x0 ((n : Int), kn, of) a b w) : (Int → Option Bool)), ())) hs2
      refine bnd rfl (bnd e1 (bnd e2 ?_))
      have hall : qOn n kn of a b w k' (2 ^ of.length - 1) = true := by
        unfold qOn
        rw [Nat.testBit_two_pow_sub_one]
        simp [hk', hr]
      rcases h1 with ⟨_, _, h1⟩ | ⟨t1, rfl, h1⟩
      · rw [h1 _ (by omega)] at hall; cases hall
      · rcases h2 with ⟨rfl, h2, _⟩ | ⟨t2, rfl, h2⟩
        · rw [if_pos (by rfl), if_pos (by omega)]
        · rw [if_neg (by show ¬ (((true, mc of (qOff n kn of a b w k') (2 ^ of.length), (t2 : Int)) : S_keeper_choice) == ((false, 0, 0) : S_keeper_choice)) = true; intro h; cases h), if_neg (by omega)]
    · rw [if_neg hr, if_neg hr]
      rfl
  · rw [if_neg hk]
    have h0 : (decide (k < 0) || decide ((of.length : Int) ≤ k)) = true := by simp; omega
    rw [if_pos h0]
theorem f21_eq {a b : Nat} (ha : a < n) (hb : b < n) {w : Int} (hw : w ≤ 16777216) (hc : code ((n : Int), kn, of) a b w = 0) (k : Int) : M.f21 1000 ((n : Int), kn, of) a b w k = some (priceR n kn of a b w k) := by
  have hp := hm.pos
  have hp2 := hm.pow
  have h6 := hm.lo
  unfold M.f21 priceR
  refine bnd (f72_eq _ _ _ _) ?_
  rw [hc]
  simp only [bne_self_eq_false, Bool.false_eq_true, if_false]
  refine bnd (f80_eq _ _ _) ?_
  have hwr : wr ((of.length : Int) - 1) = (of.length : Int) - 1 := wr_id (by omega) (by omega)
  by_cases hk : 0 ≤ k ∧ k < (of.length : Int)
  · rw [if_pos hk]
    have h0 : (decide (0 ≤ k) && decide (k ≤ wr ((of.length : Int) - 1))) = true := by rw [hwr]; simp; omega
    rw [if_neg (by show ¬ (!(decide (0 ≤ k) && decide (k ≤ wr ((of.length : Int) - 1)))) = true; rw [h0]; simp)]
    refine bnd hm.f75 (bnd hm.f74 (bnd (hm.f73 ha hb w hw) ?_))
    by_cases hr : WdS n kn of (2 ^ of.length - 1) a b ≤ w
    · rw [if_pos hr]
      simp only [hr, decide_true, Bool.not_true, Bool.false_eq_true, if_false]
      obtain ⟨k', rfl⟩ : ∃ k' : Nat, k = (k' : Int) := ⟨k.toNat, by omega⟩
      simp only [Int.toNat_natCast]
      have hk' : k' < of.length := by omega
      have hit : ∀ N, itr (fun s (p : Int × Int) => (mcG of (qOn n kn of a b w k') s p.1, mcG of (qOff n kn of a b w k') s p.2)) N (1099511627776, 1099511627776) = (mc of (qOn n kn of a b w k') N, mc of (qOff n kn of a b w k') N) := by
        intro N
        induction N with
        | zero => rfl
        | succ N ih => simp only [itr, ih]; rfl
      refine bnd (loopM_map (N := 2 ^ of.length) (t0 := ((1099511627776, 1099511627776) : Int × Int)) (fun s (p : Int × Int) => (mcG of (qOn n kn of a b w k') s p.1, mcG of (qOff n kn of a b w k') s p.2)) (fun s p => (p.1, p.2, (s : Int))) (fun p => p) (by omega) (fun s p hs => ?_) (fun p => ?_)) ?_
      · refine bnd hm.shl ?_
        rw [if_pos (by rw [decide_eq_true_eq]; exact Int.ofNat_lt.2 hs)]
        refine bnd hm.f74 (bnd (hm.f73 ha hb w hw) ?_)
        rw [wr_id (show -9223372036854775808 ≤ ((s : Int) + 1) by omega) (by omega)]
        unfold mcG qOn qOff
        cases hq : decide (WdS n kn of s a b ≤ w) with
        | false =>
          simp only [Bool.and_false, Bool.false_eq_true, if_false]
          rfl
        | true =>
          simp only [Bool.not_true, Bool.false_eq_true, if_false, Bool.and_true]
          refine bnd (shr_nat (by omega)) ?_
          rw [bit_of]
          cases hb : s.testBit k' with
          | true => exact bnd (bnd hm.f81 rfl) rfl
          | false => exact bnd (bnd hm.f81 rfl) rfl
      · refine bnd hm.shl ?_
        rw [if_neg (by simp)]
      · rw [hit]
        show (if decide (1099511627776 ≤ mc of (qOff n kn of a b w k') (2 ^ of.length)) = true then some (0, false, 0) else some (wr (mc of (qOff n kn of a b w k') (2 ^ of.length) - mc of (qOn n kn of a b w k') (2 ^ of.length)), true, 0)) = _
        by_cases h : 1099511627776 ≤ mc of (qOff n kn of a b w k') (2 ^ of.length) <;> simp [h]
    · rw [if_neg hr]
      simp [hr]
  · rw [if_neg hk]
    have h0 : (decide (0 ≤ k) && decide (k ≤ wr ((of.length : Int) - 1))) = false := by rw [hwr]; simp; omega
    rw [if_pos (by show (!(decide (0 ≤ k) && decide (k ≤ wr ((of.length : Int) - 1)))) = true; rw [h0]; rfl)]
end
end Go.Proofs.Ytkbilbeaedocjaa
