/-
  What is proved: widths and costs so many times as great.
-/
import Derived.Test.YtkbilbeaedocjaaKeepS
namespace Go.Proofs.Ytkbilbeaedocjaa
open Go Go.Proofs.Ytkbilbeaedocjaa.Wh
set_option maxRecDepth 100000

/-- All Widths k times as great. -/
def scW (k : Int) (o : S_api_Offer) : S_api_Offer := (o.1, o.2.1, o.2.2.1, o.2.2.2 * k)
/-- All Costs. -/
def scC (k : Int) (o : S_api_Offer) : S_api_Offer := (o.1, o.2.1, o.2.2.1 * k, o.2.2.2)
theorem mul_up {a b k : Int} (h : a ≤ b) (hk : 0 ≤ k) : a * k ≤ b * k := Int.mul_le_mul_of_nonneg_right h hk
theorem mul_cap {a k : Int} (ha : a ≤ 7340032) (h0 : 0 ≤ a) (hk : 0 ≤ k) (hk2 : k ≤ 1000) : 0 ≤ a * k ∧ a * k ≤ 7340032000 := by
  have h1 := mul_up ha hk
  have h2 := Int.mul_nonneg h0 hk
  omega
theorem mul_iff {a b k : Int} (hk : 1 ≤ k) : a * k ≤ b * k ↔ a ≤ b := by
  constructor
  · intro h
    rcases Int.lt_or_le b a with q | q
    · have h1 := mul_up (show b + 1 ≤ a by omega) (show 0 ≤ k by omega)
      rw [Int.add_mul, Int.one_mul] at h1
      omega
    · exact q
  · intro h; exact mul_up h (by omega)
theorem mul_lt {a b k : Int} (hk : 1 ≤ k) : a * k < b * k ↔ a < b := by
  have h1 := mul_iff (a := b) (b := a) hk
  omega
theorem mul_eq {a b k : Int} (hk : 1 ≤ k) : a * k = b * k ↔ a = b := by
  have h1 := mul_iff (a := b) (b := a) hk
  have h2 := mul_iff (a := a) (b := b) hk
  omega
section
variable {n : Nat} {c c' k : Int} {cs : List S_api_Offer}
theorem width_of (h : ∀ o ∈ cs, okB (n : Int) c o = true) {o : S_api_Offer} (ho : o ∈ cs) : 0 ≤ o.2.2.2 ∧ o.2.2.2 ≤ 1048576 := by
  have := h o ho
  unfold okB at this
  simp at this
  omega
theorem wd_cap (hn : n ≤ 8) (h : ∀ o ∈ cs, okB (n : Int) c o = true) {a b : Nat} (ha : a < n) (hb : b < n) (hlt : Wd n cs a b < 1099511627776) : Wd n cs a b ≤ 7340032 := by
  have hs := st_steps h
  have := (wd_cl h).bound (M := 1048576) (by omega) (fun x y _ _ hlt => by
    obtain ⟨o, ho, _, hw⟩ := hs.at_ x y hlt
    have := width_of h ho
    omega) ha hb hlt
  omega
theorem stp_scW (hk : 1 ≤ k) (hk2 : k ≤ 1000) (h : ∀ o ∈ cs, okB (n : Int) c o = true) (h' : ∀ o ∈ cs.map (scW k), okB (n : Int) c' o = true) (a b : Nat) : Stp (cs.map (scW k)) a b = if Stp cs a b < 1099511627776 then Stp cs a b * k else 1099511627776 := by
  have hs := st_steps h
  have hs' := st_steps h'
  have f1 := hs.far a b; have f2 := hs'.far a b
  unfold Wh.far at f1 f2
  split
  · rename_i q
    obtain ⟨o, ho, hl, hw⟩ := hs.at_ a b q
    have hw2 := width_of h ho
    have hcap := mul_cap (show o.2.2.2 ≤ 7340032 by omega) hw2.1 (show 0 ≤ k by omega) hk2
    have h1 : Stp (cs.map (scW k)) a b ≤ o.2.2.2 * k := hs'.le (scW k o) (List.mem_map.2 ⟨o, ho, rfl⟩) a b hl
    obtain ⟨o', ho', hl', hw'⟩ := hs'.at_ a b (show Stp (cs.map (scW k)) a b < Wh.far by unfold Wh.far; omega)
    obtain ⟨o1, ho1, rfl⟩ := List.mem_map.1 ho'
    have h2 : Stp cs a b ≤ o1.2.2.2 := hs.le o1 ho1 a b hl'
    have h3 := mul_up h2 (show 0 ≤ k by omega)
    have hw' : Stp (cs.map (scW k)) a b = o1.2.2.2 * k := hw'
    have hw : Stp cs a b = o.2.2.2 := hw
    rw [hw] at h3 ⊢
    omega
  · rename_i q
    rcases Int.lt_or_le (Stp (cs.map (scW k)) a b) 1099511627776 with q2 | q2
    · obtain ⟨o', ho', hl', hw'⟩ := hs'.at_ a b q2
      obtain ⟨o1, ho1, rfl⟩ := List.mem_map.1 ho'
      have h2 : Stp cs a b ≤ o1.2.2.2 := hs.le o1 ho1 a b hl'
      have := width_of h ho1
      omega
    · omega
theorem wd_scW (hn : n ≤ 8) (hk : 1 ≤ k) (hk2 : k ≤ 1000) (h : ∀ o ∈ cs, okB (n : Int) c o = true) (h' : ∀ o ∈ cs.map (scW k), okB (n : Int) c' o = true) {a b : Nat} (ha : a < n) (hb : b < n) :
    Wd n (cs.map (scW k)) a b = if Wd n cs a b < 1099511627776 then Wd n cs a b * k else 1099511627776 := by
  have c1 := wd_cl h
  have c2 := wd_cl h'
  have cap := fun {a b : Nat} (ha : a < n) (hb : b < n) (hlt : Wd n cs a b < 1099511627776) => mul_cap (wd_cap hn h ha hb hlt) (c1.nonneg a b ha hb) (show 0 ≤ k by omega) hk2
  have hE := c2.lb (E := fun a b => if Wd n cs a b < 1099511627776 then Wd n cs a b * k else 1099511627776) (fun a b ha hb => by
      rw [stp_scW hk hk2 h h']
      have hle := c1.le a b ha hb
      by_cases q : Stp cs a b < 1099511627776
      · rw [if_pos q]
        show (if Wd n cs a b < 1099511627776 then Wd n cs a b * k else 1099511627776) ≤ _
        rw [if_pos (by omega)]
        exact mul_up hle (by omega)
      · rw [if_neg q]
        show (if Wd n cs a b < 1099511627776 then Wd n cs a b * k else 1099511627776) ≤ _
        split
        · rename_i q2; have := cap ha hb q2; omega
        · omega)
    (fun a ha => by
      show (if Wd n cs a a < 1099511627776 then Wd n cs a a * k else 1099511627776) ≤ 0
      rw [c1.zero a ha, if_pos (by omega), Int.zero_mul]; exact Int.le_refl _)
    (fun x y z hx hy hz => by
      show (if Wd n cs x z < 1099511627776 then Wd n cs x z * k else 1099511627776) ≤ (if Wd n cs x y < 1099511627776 then Wd n cs x y * k else 1099511627776) + (if Wd n cs y z < 1099511627776 then Wd n cs y z * k else 1099511627776)
      have t := c1.tri x y z hx hy hz
      by_cases q1 : Wd n cs x y < 1099511627776
      · by_cases q2 : Wd n cs y z < 1099511627776
        · have k1 := wd_cap hn h hx hy q1
          have k2 := wd_cap hn h hy hz q2
          rw [if_pos q1, if_pos q2, if_pos (by omega), ← Int.add_mul]
          exact mul_up t (by omega)
        · rw [if_pos q1, if_neg q2]
          have := cap hx hy q1
          split
          · rename_i q3; have := cap hx hz q3; omega
          · omega
      · rw [if_neg q1]
        have h0 : 0 ≤ (if Wd n cs y z < 1099511627776 then Wd n cs y z * k else 1099511627776) := by
          split
          · rename_i q3; have := cap hy hz q3; omega
          · omega
        split
        · rename_i q3; have := cap hx hz q3; omega
        · omega)
    (fun x y hx hy => by
      show (if Wd n cs x y < 1099511627776 then Wd n cs x y * k else 1099511627776) ≤ Wh.far
      unfold Wh.far
      split
      · rename_i q3; have := cap hx hy q3; omega
      · omega) ha hb
  have hE : (if Wd n cs a b < 1099511627776 then Wd n cs a b * k else 1099511627776) ≤ Wd n (cs.map (scW k)) a b := hE
  have hf := c2.far a b ha hb
  unfold Wh.far at hf
  by_cases q : Wd n cs a b < 1099511627776
  · rw [if_pos q] at hE ⊢
    obtain ⟨j, hw⟩ := c1.att a b ha hb q
    have key : ∀ {x y j : Nat} {v : Int}, Walk n (Stp cs) x y j v → Walk n (Stp (cs.map (scW k))) x y j (v * k) := by
      intro x y j v hw
      induction hw with
      | nil hx => rw [Int.zero_mul]; exact .nil hx
      | @step y z j v hw hz hs ih =>
        have e := stp_scW hk hk2 h h' y z
        rw [if_pos (show Stp cs y z < 1099511627776 from hs)] at e
        rw [Int.add_mul, ← e]
        refine .step ih hz ?_
        have hsc := st_steps h
        obtain ⟨o, ho, hl, hw⟩ := hsc.at_ y z hs
        have := width_of h ho
        have := mul_cap (show o.2.2.2 ≤ 7340032 by omega) this.1 (show 0 ≤ k by omega) hk2
        rw [e, hw]
        unfold Wh.far
        omega
    have := c2.walk (key hw)
    omega
  · rw [if_neg q] at hE ⊢
    omega
theorem wd_scC (kn ps : List S_api_Offer) : Wd n (kn ++ ps.map (scC k)) = Wd n (kn ++ ps) := by
  unfold Wd
  rw [List.foldl_append, List.foldl_append, List.foldl_map]
  rfl
end
theorem sum_mul (c : Nat → Int) (k : Int) : ∀ l : List Nat, (l.map fun i => c i * k).sum = (l.map c).sum * k
  | [] => by simp
  | i :: l => by simp [sum_mul c k l, Int.add_mul]
theorem costAt_scC (of : List S_api_Offer) (k : Int) (i : Nat) : costAt (of.map (scC k)) i = costAt of i * k := by
  unfold costAt
  rw [List.getElem?_map]
  cases of[i]? with
  | none => simp
  | some o => rfl
section
variable {n : Nat} {kn of : List S_api_Offer} {k : Int}
theorem cS_scC (hm : Ok n kn of) (hd : Ok n kn (of.map (scC k))) (s : Nat) : cS (of.map (scC k)) s = cS of s * k := by
  rw [hm.sum', hd.sum', List.length_map, ← sum_mul]
  congr 1
  apply List.map_congr_left
  intro i _
  exact costAt_scC of k i
theorem cS_scW (s : Nat) : cS (of.map (scW k)) s = cS of s := by
  unfold cS
  rw [costF_map (scW k) (fun _ => rfl), List.length_map]
theorem wdS_scC (s : Nat) : WdS n kn (of.map (scC k)) s = WdS n kn of s := by
  unfold WdS
  rw [picks_map, List.length_map, wd_scC]
theorem wdS_scW (hm : Ok n kn of) (hw : Ok n (kn.map (scW k)) (of.map (scW k))) (hk : 1 ≤ k) (hk2 : k ≤ 1000) (s : Nat) {a b : Nat} (ha : a < n) (hb : b < n) : WdS n (kn.map (scW k)) (of.map (scW k)) s a b = if WdS n kn of s a b < 1099511627776 then WdS n kn of s a b * k else 1099511627776 := by
  have h2 := hw.all_okB (l := sel of.length s)
  unfold WdS
  rw [picks_map, ← List.map_append] at *
  rw [List.length_map]
  exact wd_scW hm.n8 hk hk2 hm.all_okB h2 ha hb
theorem bfS_scC (hm : Ok n kn of) (hd : Ok n kn (of.map (scC k))) (hk : 1 ≤ k) (s t : Nat) : bfS (of.map (scC k)) s t = bfS of s t := by
  unfold bfS
  rw [cS_scC hm hd, cS_scC hm hd, List.length_map]
  apply Bool.eq_iff_iff.2
  rw [befL_iff, befL_iff, mul_lt hk, mul_eq hk]
theorem mc_le_far {q : Nat → Bool} : ∀ N, mc of q N ≤ 1099511627776
  | 0 => Int.le_refl _
  | N + 1 => by
    have ih := mc_le_far (q := q) N
    rw [mc_succ]
    split
    · unfold imin; split <;> omega
    · exact ih
theorem mc_scC (hm : Ok n kn of) (hd : Ok n kn (of.map (scC k))) (hk : 1 ≤ k) {q : Nat → Bool} : ∀ N, mc (of.map (scC k)) q N = if mc of q N < 1099511627776 then mc of q N * k else 1099511627776
  | 0 => rfl
  | N + 1 => by
    have ih := mc_scC hm hd hk (q := q) N
    have e := cS_scC hm hd N
    have b1 := (hm.costs (s := N)).2
    have b2 := (hd.costs (s := N)).2
    have hle := mc_le_far (of := of) (q := q) N
    unfold cS at e b1 b2
    rw [mc_succ, mc_succ]
    cases q N with
    | false => simpa using ih
    | true =>
      simp only [if_true]
      rw [ih, e]
      rw [e] at b2
      unfold imin
      have m1 := mul_lt (a := costF of (sel of.length N)) (b := mc of q N) hk
      by_cases r : mc of q N < 1099511627776
      · rw [if_pos r]
        by_cases r2 : costF of (sel of.length N) < mc of q N
        · rw [if_pos r2, if_pos (m1.2 r2), if_pos (by omega)]
        · rw [if_neg r2, if_neg (fun x => r2 (m1.1 x)), if_pos r]
      · rw [if_neg r, if_pos (by omega), if_pos (by omega), if_pos (by omega)]
theorem price_scC (hm : Ok n kn of) (hd : Ok n kn (of.map (scC k))) (hk : 1 ≤ k) (hk2 : k ≤ 1000) (a b : Nat) (w : Int) {j : Nat} (hj : j < of.length) :
    priceR n kn (of.map (scC k)) a b w j = (wr (k * (priceR n kn of a b w j).1), (priceR n kn of a b w j).2.1, (priceR n kn of a b w j).2.2) := by
  have hl : (of.map (scC k)).length = of.length := List.length_map _
  have hp := hm.pos
  have hoff : qOff n kn (of.map (scC k)) a b w j = qOff n kn of a b w j := by funext s; unfold qOff; rw [wdS_scC]
  have hon : qOn n kn (of.map (scC k)) a b w j = qOn n kn of a b w j := by funext s; unfold qOn; rw [wdS_scC]
  unfold priceR
  have h01 : 0 ≤ (j : Int) ∧ (j : Int) < (of.length : Int) := by omega
  rw [hl, wdS_scC, Int.toNat_natCast, hoff, hon]
  simp only [if_pos h01]
  by_cases q : WdS n kn of (2 ^ of.length - 1) a b ≤ w
  · simp only [if_pos q]
    rw [mc_scC hm hd hk, mc_scC hm hd hk]
    by_cases r : 1099511627776 ≤ mc of (qOff n kn of a b w j) (2 ^ of.length)
    · simp only [if_pos r, if_neg (show ¬ mc of (qOff n kn of a b w j) (2 ^ of.length) < 1099511627776 by omega), if_pos (Int.le_refl (1099511627776 : Int))]
      show ((0 : Int), false, (0 : Int)) = (wr (k * 0), false, 0)
      rw [Int.mul_zero]; rfl
    · have r1 : mc of (qOff n kn of a b w j) (2 ^ of.length) < 1099511627776 := by omega
      have r2 : mc of (qOn n kn of a b w j) (2 ^ of.length) < 1099511627776 := by
        have := mc_le (of := of) (q := qOn n kn of a b w j) (N := 2 ^ of.length) (s := 2 ^ of.length - 1) (by omega) (by
          unfold qOn
          rw [Nat.testBit_two_pow_sub_one]
          simp [hj, q])
        have := (hm.costs (s := 2 ^ of.length - 1)).2
        omega
      obtain ⟨s1, _, _, e1⟩ := mc_at r1
      obtain ⟨s2, _, _, e2⟩ := mc_at r2
      have c1 := hm.costs (s := s1); have c2 := hm.costs (s := s2)
      have d1 := hd.costs (s := s1); have d2 := hd.costs (s := s2)
      rw [cS_scC hm hd] at d1 d2
      simp only [if_neg r, if_pos r1, if_pos r2]
      rw [e1, e2, if_neg (by omega)]
      rw [wr_id (n := cS of s1 - cS of s2) (by omega) (by omega), Int.mul_comm k, Int.sub_mul]
  · simp only [if_neg q]
    show ((0 : Int), false, (4 : Int)) = (wr (k * 0), false, 4)
    rw [Int.mul_zero]; rfl
end
end Go.Proofs.Ytkbilbeaedocjaa
