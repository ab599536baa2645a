/-
  What is proved: the specification's least weights are least weights.
-/
import Derived.Test.YthogdhepjcomjaaGreatDoorWatQ
import Derived.Test.YthogdhepjcomjaaGreatDoorModelH
namespace Go.Proofs.YthogdhepjcomjaaGreatDoor
open Go Go.Proofs.YthogdhepjcomjaaGreatDoor.Wh

/-- Rounds 0 .. N - 1 of a loop, then out. -/
theorem loopC {α σ ρ : Type} {f : σ → Option (Out σ ρ)} (mk : Nat → α → σ) (I : Nat → α → Prop) (L : α → ρ) {N fuel : Nat} {s : α} (hf : N < fuel) (h0 : I 0 s)
    (h : ∀ j s, j < N → I j s → ∃ o, f (mk j s) = some o ∧ ∃ s', o = .again (mk (j + 1) s') ∧ I (j + 1) s') (he : ∀ s, I N s → f (mk N s) = some (.leave (L s))) : ∃ s', loopM f fuel (mk 0 s) = some (L s') ∧ I N s' := by
  obtain ⟨r, h1, s', h2, h3⟩ := loopM_inv (f := f) (fun m s => m ≤ N ∧ ∃ a, s = mk (N - m) a ∧ I (N - m) a) (fun r => ∃ s', r = L s' ∧ I N s') fuel N (mk 0 s) hf ⟨Nat.le_refl _, s, by rw [Nat.sub_self], by rw [Nat.sub_self]; exact h0⟩ fun m s ⟨hm, a, hs, ha⟩ => by
    subst hs
    cases m with
    | zero => exact ⟨_, he a ha, a, rfl, ha⟩
    | succ m =>
      obtain ⟨_, h1, s', rfl, h2⟩ := h (N - (m + 1)) a (by omega) ha
      refine ⟨_, h1, m, by omega, by omega, s', ?_, ?_⟩
      · rw [show N - (m + 1) + 1 = N - m from by omega]
      · rw [show N - m = N - (m + 1) + 1 from by omega]; exact h2
  exact ⟨s', by rw [h1, h2], h3⟩
theorem f75_eq {r : S_api_Roster} {g : Int} {fuel : Nat} (hf : 32 < fuel) : M.f75 fuel r g = some (gateE r g) := by
  unfold M.f75 M.f136 gateE
  rw [f33_eq hf]
  simp only [Option.bind_eq_bind, Option.bind_some]
  cases vldB r with
  | false => rfl
  | true =>
    simp only [Bool.not_true, Bool.false_eq_true, if_false, if_true]
    by_cases q : 0 ≤ g ∧ g < r.1
    · rw [if_pos q]
      have : (decide (0 ≤ g) && decide (g < r.1)) = true := by simpa using q
      rw [this]; rfl
    · rw [if_neg q]
      have : (decide (0 ≤ g) && decide (g < r.1)) = false := by
        cases e : (decide (0 ≤ g) && decide (g < r.1)) with
        | false => rfl
        | true => rw [Bool.and_eq_true, decide_eq_true_eq, decide_eq_true_eq] at e; exact absurd e q
      rw [this]; rfl
/-- What a turn weighs. -/
def wtI (r : S_api_Roster) (fw : Bool) (x : Int) : Int := if fw = true then 1048576 + cs r x else 64 * cs r x + 1
/-- What is known of a roster whose turns may be of gates that are not there. -/
structure Vw (r : S_api_Roster) : Prop where
  len : r.2.2.2.2.length ≤ 24
  cs : ∀ x, 0 ≤ cs r x ∧ cs r x ≤ 10000
  e83 : ∀ {x : Int}, inR r x = true → M.f83 r x = some (decide (bgI r x ≤ 0))
  e98 : ∀ {x : Int}, inR r x = true → M.f98 r x = some (decide (enI r x ≤ 0))
  e84 : ∀ {x y : Int}, inR r x = true → inR r y = true → M.f84 r x y = some (foB r x y)
theorem Vd.toVw {r : S_api_Roster} (h : Vd r) : Vw r := ⟨h.len, h.cs, f83_eq h, f98_eq h, f84_eq h⟩
theorem csum_bndw {r : S_api_Roster} (h : Vw r) : ∀ l : List Int, 0 ≤ csum r l ∧ csum r l ≤ 10000 * (l.length : Int)
  | [] => by simp [csum]
  | x :: l => by
    have := csum_bndw h l
    have := h.cs x
    simp only [csum, List.length_cons]
    omega
theorem Way.len24 {r : S_api_Roster} (h : Vw r) {g : Int} {l : List Int} {x : Int} (hw : Way r g l x) : l.length ≤ 24 := by
  have h2 : (l.map Int.toNat).Nodup := nodup_nat (fun x hx => (inR_iff.1 (hw.all x hx).1).1) hw.nodup
  have h3 := nodup_le r.2.2.2.2.length (l.map Int.toNat) h2 fun y hy => by
    obtain ⟨a, ha, rfl⟩ := List.mem_map.1 hy
    have := inR_iff.1 (hw.all a ha).1
    omega
  have h4 := h.len
  rw [List.length_map] at h3
  omega
theorem Vw.wt {r : S_api_Roster} (h : Vw r) (fw : Bool) (x : Int) : 1 ≤ wtI r fw x ∧ wtI r fw x ≤ 1058576 := by
  have := h.cs x
  unfold wtI
  split <;> omega
theorem sumf_wt {r : S_api_Roster} (l : List Int) : sumf (wtI r false) l = 64 * csum r l + (l.length : Int) ∧ sumf (wtI r true) l = 1048576 * (l.length : Int) + csum r l := by
  induction l with
  | nil => exact ⟨rfl, rfl⟩
  | cons a l ih =>
    obtain ⟨h1, h2⟩ := ih
    simp only [sumf, csum, List.length_cons, h1, h2, wtI]
    simp
    constructor <;> omega
theorem f139_eq {r : S_api_Roster} (h : Vw r) {fw : Bool} {j : Nat} : M.f139 (tnJ r j) fw = some (wtI r fw (j : Int)) := by
  have e : (tnJ r j).2.2.2.2.2 = cs r (j : Int) := rfl
  have := h.cs (j : Int)
  unfold M.f139 wtI
  rw [e]
  cases fw with
  | true => simp only [if_true]; rw [wr_id (by omega) (by omega)]
  | false =>
    simp only [Bool.false_eq_true, if_false]
    rw [wr_id (n := 64 * cs r (j : Int)) (by omega) (by omega), wr_id (by omega) (by omega)]
/-- A list of numbers, one for each turn. -/
def rl (n : Nat) (R : Int → Int) : List Int := (List.range n).map fun j : Nat => R (j : Int)
def upI (R : Int → Int) (j z : Int) : Int → Int := fun i => if i = j then z else R i
theorem idx_rl {n : Nat} {R : Int → Int} {j : Nat} (hj : j < n) : idx (rl n R) (j : Int) = some (R (j : Int)) := idx_row hj
theorem set_rl {n : Nat} {R : Int → Int} {j : Nat} {z : Int} (hj : j < n) : set1 (rl n R) (j : Int) z = some (rl n (upI R (j : Int) z)) := by
  unfold rl
  rw [set1_row hj]
  congr 1
  apply List.map_congr_left
  intro b _
  unfold upI
  by_cases e : b = j
  · rw [if_pos e, if_pos (by omega)]
  · rw [if_neg e, if_neg (by omega)]
theorem rl_succ {n : Nat} {R : Int → Int} : rl (n + 1) R = rl n R ++ [R (n : Int)] := by unfold rl; rw [List.range_succ, List.map_append]; rfl
theorem rl_len {n : Nat} {R : Int → Int} : (rl n R).length = n := by simp [rl]
/-- What is so of the weights while they are bettered: they are those of runs, and no more than those of runs that are not longer than so much. -/
structure Bet (r : S_api_Roster) (g : Int) (w : Int → Int) (t : Nat) (R : Int → Int) : Prop where
  att : ∀ i, inR r i = true → R i < far → ∃ l, Run r g i l ∧ sumf w l = R i
  rng : ∀ i, inR r i = true → 0 ≤ R i ∧ R i ≤ far
  cov : ∀ i l, Run r g i l → l.length ≤ t → R i ≤ sumf w l
/-- One betters the other. -/
theorem Bet.step {r : S_api_Roster} (h : Vw r) {g : Int} {fw : Bool} {t : Nat} {R : Int → Int} (hb : Bet r g (wtI r fw) t R) {i k : Int} (hi : inR r i = true) (hg : (tn r i).1 = g) (hk : inR r k = true) (hf : foB r i k = true) (hlt : R k < far) :
    Bet r g (wtI r fw) t (upI R i (imin (R i) (R k + wtI r fw i))) ∧ (∀ j, upI R i (imin (R i) (R k + wtI r fw i)) j ≤ R j) ∧ upI R i (imin (R i) (R k + wtI r fw i)) i ≤ R k + wtI r fw i := by
  have hw := h.wt fw i
  have hle : ∀ j, upI R i (imin (R i) (R k + wtI r fw i)) j ≤ R j := fun j => by
    unfold upI imin
    split
    · rename_i e; subst e; split <;> omega
    · exact Int.le_refl _
  refine ⟨⟨fun j hj hl => ?_, fun j hj => ?_, fun j l hr hl => Int.le_trans (hle j) (hb.cov j l hr hl)⟩, hle, ?_⟩
  · unfold upI imin at *
    split at hl
    · rename_i e; subst e
      rw [if_pos rfl]
      split at hl
      · rename_i q
        rw [if_pos q]
        obtain ⟨l, h1, h2⟩ := hb.att k hk hlt
        exact ⟨j :: l, .cons hi hf h1, by simp only [sumf]; omega⟩
      · rename_i q
        rw [if_neg q]
        exact hb.att j hj hl
    · rename_i e
      rw [if_neg e]
      exact hb.att j hj hl
  · have h1 := hb.rng i hi
    have h2 := hb.rng j hj
    have h3 := hb.rng k hk
    unfold upI imin
    split
    · split <;> omega
    · exact h2
  · unfold upI imin
    rw [if_pos rfl]
    split <;> omega
theorem sum24 {r : S_api_Roster} (h : Vw r) {fw : Bool} {l : List Int} (hl : l.length ≤ 25) : sumf (wtI r fw) l < far := by
  have := sumf_le (w := wtI r fw) (M := 1058576) (l := l) fun x _ => (h.wt fw x).2
  unfold far
  have : (l.length : Int) * 1058576 ≤ 25 * 1058576 := by
    have : (l.length : Int) ≤ 25 := by omega
    omega
  omega
section
variable {r : S_api_Roster} (h : Vw r) {g : Int} {fw : Bool}
include h
theorem f138_so {fuel : Nat} (hf : 24 < fuel) : ∃ s, M.f138 fuel r g fw = some s ∧ ∃ R, s = rl r.2.2.2.2.length R ∧ Dist r g (wtI r fw) R := by
  have h24 := h.len
  unfold M.f138
  simp only [Option.bind_eq_bind]
  obtain ⟨R0, hR0⟩ : ∃ R0 : Int → Int, ∀ x, R0 x = if (tn r x).1 = g ∧ enI r x ≤ 0 then wtI r fw x else far := ⟨_, fun _ => rfl⟩
  refine bndX (P := fun s => s = rl r.2.2.2.2.length R0) (Exists.intro _ (And.intro (loopM_go (N := r.2.2.2.2.length) (fuel := fuel) (s := ((0, []) : Int × List Int)) (fun j : Nat => ((j : Int), rl j R0)) (rl r.2.2.2.2.length R0) rfl (by omega) (fun j hj => ?_) ?_) rfl)) ?_
  · have e1 : idx r.2.2.2.2 (j : Int) = some (tnJ r j) := idx_getD hj
    have hx : inR r (j : Int) = true := inR_iff.2 ⟨by omega, by omega⟩
    simp only [lt_dec hj, if_true, e1, h.e98 hx, Option.bind_some, f139_eq h, rl_succ]
    have et : (tn r (j : Int)).1 = (tnJ r j).1 := rfl
    by_cases q1 : (tnJ r j).1 = g
    · have e2 : ((tnJ r j).1 == g) = true := by simp [q1]
      simp only [e2, guardO, Option.bind_some, Bool.true_and]
      by_cases q2 : enI r (j : Int) ≤ 0
      · have e3 : R0 (j : Int) = wtI r fw (j : Int) := by rw [hR0, if_pos ⟨by rw [et]; exact q1, q2⟩]
        simp only [decide_eq_true q2, if_true]
        rw [app_one (by rw [rl_len]; omega), e3, wr_succ (by omega)]
        rfl
      · have e3 : R0 (j : Int) = 1099511627776 := by rw [hR0, if_neg (fun q => q2 q.2)]; rfl
        simp only [decide_eq_false q2, Bool.false_eq_true, if_false]
        rw [app_one (by rw [rl_len]; omega), e3, wr_succ (by omega)]
        rfl
    · have e2 : ((tnJ r j).1 == g) = false := by simpa using q1
      have e3 : R0 (j : Int) = 1099511627776 := by rw [hR0, if_neg (fun q => q1 q.1)]; rfl
      simp only [e2, guardO, Option.bind_some, Bool.false_and, Bool.false_eq_true, if_false]
      rw [app_one (by rw [rl_len]; omega), e3, wr_succ (by omega)]
      rfl
  · simp
  rintro s rfl
  have hb0 : Bet r g (wtI r fw) 1 R0 := by
    refine ⟨fun i hi hl => ?_, fun i hi => ?_, fun i l hr hl => ?_⟩
    · by_cases q : (tn r i).1 = g ∧ enI r i ≤ 0
      · refine ⟨[i], .one hi q.1 q.2, ?_⟩
        rw [hR0, if_pos q]; simp [sumf]
      · exfalso
        have : R0 i = far := by rw [hR0, if_neg q]
        omega
    · have := h.wt fw i
      rw [hR0]
      unfold far
      split <;> omega
    · cases hr with
      | one a b d =>
        rw [hR0, if_pos ⟨b, d⟩]; simp [sumf]
      | cons a b d =>
        obtain ⟨q, rfl⟩ := d.head
        simp at hl
  refine bndX (P := fun s => ∃ R, s = rl r.2.2.2.2.length R ∧ Bet r g (wtI r fw) (r.2.2.2.2.length + 1) R) (loopC (fuel := fuel) (N := r.2.2.2.2.length) (s := rl r.2.2.2.2.length R0) (fun j (s : List Int) => ((j : Int), s)) (fun t s => ∃ R, s = rl r.2.2.2.2.length R ∧ Bet r g (wtI r fw) (t + 1) R) id (by omega) ⟨R0, rfl, hb0⟩ ?_ ?_) ?_
  · rintro t s ht ⟨R, rfl, hR⟩
    simp only [lt_dec ht, if_true]
    refine bndX (P := fun s => ∃ R, s = rl r.2.2.2.2.length R ∧ Bet r g (wtI r fw) (t + 1) R ∧ ∀ i : Nat, i < r.2.2.2.2.length → ∀ l, Run r g (i : Int) l → l.length ≤ t + 2 → R (i : Int) ≤ sumf (wtI r fw) l) (loopC (fuel := fuel) (N := r.2.2.2.2.length) (s := rl r.2.2.2.2.length R) (fun j (s : List Int) => ((j : Int), s)) (fun i s => ∃ R, s = rl r.2.2.2.2.length R ∧ Bet r g (wtI r fw) (t + 1) R ∧ ∀ i' : Nat, i' < i → ∀ l, Run r g (i' : Int) l → l.length ≤ t + 2 → R (i' : Int) ≤ sumf (wtI r fw) l) id (by omega) ⟨R, rfl, hR, fun i' hi' => absurd hi' (by omega)⟩ ?_ ?_) ?_
    · clear hR R
      rintro i s hi ⟨R, rfl, hR, hI⟩
      have e1 : idx r.2.2.2.2 (i : Int) = some (tnJ r i) := idx_getD hi
      have hx : inR r (i : Int) = true := inR_iff.2 ⟨by omega, by omega⟩
      simp only [lt_dec hi, if_true]
      refine bndX (P := fun s => ∃ R, s = rl r.2.2.2.2.length R ∧ Bet r g (wtI r fw) (t + 1) R ∧ (∀ i' : Nat, i' < i → ∀ l, Run r g (i' : Int) l → l.length ≤ t + 2 → R (i' : Int) ≤ sumf (wtI r fw) l) ∧ ∀ k' : Nat, k' < r.2.2.2.2.length → (tn r (i : Int)).1 = g → foB r (i : Int) (k' : Int) = true → ∀ l, Run r g (k' : Int) l → l.length ≤ t + 1 → R (i : Int) ≤ wtI r fw (i : Int) + sumf (wtI r fw) l)
        (loopC (fuel := fuel) (N := r.2.2.2.2.length) (s := rl r.2.2.2.2.length R) (fun j (s : List Int) => ((j : Int), s)) (fun k s => ∃ R, s = rl r.2.2.2.2.length R ∧ Bet r g (wtI r fw) (t + 1) R ∧ (∀ i' : Nat, i' < i → ∀ l, Run r g (i' : Int) l → l.length ≤ t + 2 → R (i' : Int) ≤ sumf (wtI r fw) l) ∧ ∀ k' : Nat, k' < k → (tn r (i : Int)).1 = g → foB r (i : Int) (k' : Int) = true → ∀ l, Run r g (k' : Int) l → l.length ≤ t + 1 → R (i : Int) ≤ wtI r fw (i : Int) + sumf (wtI r fw) l) id (by omega) ⟨R, rfl, hR, hI, fun k' hk' => absurd hk' (by omega)⟩ ?_ ?_) ?_
      · clear hR hI R
        rintro k s hk ⟨R, rfl, hR, hI, hK⟩
        have hy : inR r (k : Int) = true := inR_iff.2 ⟨by omega, by omega⟩
        have et : (tn r (i : Int)).1 = (tnJ r i).1 := rfl
        have same : (∀ hg : (tn r (i : Int)).1 = g, foB r (i : Int) (k : Int) = true → ∀ l, Run r g (k : Int) l → l.length ≤ t + 1 → R (i : Int) ≤ wtI r fw (i : Int) + sumf (wtI r fw) l) → ∃ R', rl r.2.2.2.2.length R = rl r.2.2.2.2.length R' ∧ Bet r g (wtI r fw) (t + 1) R' ∧ (∀ i' : Nat, i' < i → ∀ l, Run r g (i' : Int) l → l.length ≤ t + 2 → R' (i' : Int) ≤ sumf (wtI r fw) l) ∧ ∀ k' : Nat, k' < k + 1 → (tn r (i : Int)).1 = g → foB r (i : Int) (k' : Int) = true → ∀ l, Run r g (k' : Int) l → l.length ≤ t + 1 → R' (i : Int) ≤ wtI r fw (i : Int) + sumf (wtI r fw) l := fun hs => by
          refine ⟨R, rfl, hR, hI, fun k' hk' => ?_⟩
          by_cases e : k' = k
          · subst e; exact hs
          · exact hK k' (by omega)
        simp only [lt_dec hk, if_true, e1, h.e84 hx hy, Option.bind_some, idx_rl hk, idx_rl hi, f139_eq h, wr_succ (show k < 4294967296 by omega)]
        by_cases q1 : (tnJ r i).1 = g
        · have e2 : ((tnJ r i).1 == g) = true := by simp [q1]
          simp only [e2, guardO, Option.bind_some, Bool.true_and]
          cases hfo : foB r (i : Int) (k : Int) with
          | false =>
            simp only [Option.bind_some, Bool.false_and, Bool.false_eq_true, if_false]
            exact ⟨_, rfl, _, rfl, same fun _ q => by rw [hfo] at q; cases q⟩
          | true =>
            simp only [Option.bind_some, Bool.true_and]
            by_cases q3 : R (k : Int) < 1099511627776
            · have r1 := hR.rng _ hx
              have r2 := hR.rng _ hy
              have hw := h.wt fw (i : Int)
              unfold far at r1 r2
              simp only [decide_eq_true q3, if_true]
              rw [wr_id (n := R (k : Int) + wtI r fw (i : Int)) (by omega) (by omega), set_rl hi]
              obtain ⟨b1, b2, b3⟩ := hR.step h hx (by rw [et]; exact q1) hy hfo q3
              refine ⟨_, rfl, _, rfl, _, rfl, b1, fun i' hi' l hr hl => Int.le_trans (b2 _) (hI i' hi' l hr hl), fun k' hk' hg hf2 l hr hl => ?_⟩
              by_cases e : k' = k
              · subst e
                have := hR.cov _ l hr hl
                omega
              · exact Int.le_trans (b2 _) (hK k' (by omega) hg hf2 l hr hl)
            · simp only [decide_eq_false q3, Bool.false_eq_true, if_false]
              refine ⟨_, rfl, _, rfl, same fun _ _ l hr hl => ?_⟩
              exfalso
              have h1 := hR.cov _ l hr hl
              have h2 := sum24 h (fw := fw) (l := l) (by omega)
              unfold far at h2
              omega
        · have e2 : ((tnJ r i).1 == g) = false := by simpa using q1
          simp only [e2, guardO, Option.bind_some, Bool.false_and, Bool.false_eq_true, if_false]
          exact ⟨_, rfl, _, rfl, same fun q => absurd q (by rw [et]; exact q1)⟩
      · intro s _; simp
      · clear hR hI R
        rintro s ⟨R, rfl, hR, hI, hK⟩
        rw [wr_succ (by omega)]
        refine ⟨_, rfl, _, rfl, R, rfl, hR, fun i' hi' l hr hl => ?_⟩
        by_cases e : i' = i
        · subst e
          cases hr with
          | one a b d => exact hR.cov _ _ (.one a b d) (by simp)
          | @cons _ y l a b d =>
            have hy := inR_iff.1 d.inRx
            have := hK y.toNat (by omega) ((Run.cons a b d).gate)
            rw [show ((y.toNat : Nat) : Int) = y by omega] at this
            simp only [sumf]
            exact this b l d (by simpa using hl)
        · exact hI i' (by omega) l hr hl
    · intro s _; simp
    · clear hR R
      rintro s ⟨R, rfl, hR, hI⟩
      rw [wr_succ (by omega)]
      refine ⟨_, rfl, _, rfl, R, rfl, hR.att, hR.rng, fun i l hr hl => ?_⟩
      have hi := inR_iff.1 hr.inRx
      have := hI i.toNat (by omega)
      rw [show ((i.toNat : Nat) : Int) = i by omega] at this
      exact this l hr hl
  · intro s _; simp [lt_dec_self]
  · rintro s ⟨R, rfl, hR⟩
    refine ⟨_, rfl, R, rfl, ⟨hR.att, fun i l hr => ?_⟩⟩
    obtain ⟨l', h1, h2, h3⟩ := hr.short (w := wtI r fw) fun x _ => by have := h.wt fw x; omega
    have hl := h1.len h2
    have h4 := hR.cov i l' h1 (by omega)
    have h5 := sum24 h (fw := fw) (l := l') (by omega)
    exact ⟨by omega, by omega⟩
end
end Go.Proofs.YthogdhepjcomjaaGreatDoor

/-
  What is proved: the specification's plan is the least one.
-/
namespace Go.Proofs.YthogdhepjcomjaaGreatDoor
open Go Go.Proofs.YthogdhepjcomjaaGreatDoor.Wh

/-- The order of plans that is asked for. -/
def cO (r : S_api_Roster) (fw : Bool) : List Int → List Int → Int := if fw = true then cF r else cB r
section
variable {r : S_api_Roster} (h : Vw r) {g : Int} {fw : Bool}
include h
theorem wt_cO {a b : List Int} (ha : a.length ≤ 24) (hb : b.length ≤ 24) (hh : sumf (wtI r fw) a < sumf (wtI r fw) b ∨ (sumf (wtI r fw) a = sumf (wtI r fw) b ∧ lexI a b ≤ 0)) : cO r fw a b ≤ 0 := by
  have h1 := csum_bndw h a
  have h2 := csum_bndw h b
  unfold cO
  cases fw with
  | true =>
    rw [(sumf_wt a).2, (sumf_wt b).2] at hh
    rw [if_pos rfl]
    unfold cF lenI
    rw [cc_le]
    omega
  | false =>
    rw [(sumf_wt a).1, (sumf_wt b).1] at hh
    rw [if_neg (by simp)]
    unfold cB lenI
    rw [cc_le]
    omega
/-- The least of those that begin. -/
structure Fst (r : S_api_Roster) (g : Int) (R : Int → Int) (j : Nat) (now : Int) : Prop where
  is : now = -1 ∨ (0 ≤ now ∧ now < (j : Int) ∧ (tn r now).1 = g ∧ bgI r now ≤ 0 ∧ R now < far)
  le : ∀ k : Nat, k < j → (tn r (k : Int)).1 = g → bgI r (k : Int) ≤ 0 → R (k : Int) < far → 0 ≤ now ∧ (R now < R (k : Int) ∨ (R now = R (k : Int) ∧ now ≤ (k : Int)))
/-- The least that goes on. -/
structure Nxt (r : S_api_Roster) (R : Int → Int) (x left : Int) (j : Nat) (nx : Int) : Prop where
  is : nx = -1 ∨ ((j : Int) ≤ nx ∧ nx < (r.2.2.2.2.length : Int) ∧ foB r x nx = true ∧ R nx = left)
  le : ∀ k : Nat, j ≤ k → k < r.2.2.2.2.length → foB r x (k : Int) = true → R (k : Int) = left → 0 ≤ nx ∧ nx ≤ (k : Int)
theorem f78_so {fuel : Nat} (hf : 40000000 < fuel) : ∃ l, M.f78 fuel r g fw = some l ∧ IsBest r g (cO r fw) l := by
  have h24 := h.len
  obtain ⟨_, e0, R, rfl, hd⟩ := f138_so h (g := g) (fw := fw) (fuel := fuel) (by omega)
  have hw1 : ∀ x, inR r x = true → 1 ≤ wtI r fw x := fun x _ => (h.wt fw x).1
  -- what is less than far is small
  have small : ∀ x, inR r x = true → R x < far → 1 ≤ R x ∧ R x ≤ 26464400 := fun x hx hl => by
    obtain ⟨l, h1, h2⟩ := hd.att x hx hl
    obtain ⟨l', h3, h4, h5⟩ := h1.short (w := wtI r fw) fun x _ => by have := h.wt fw x; omega
    have h6 := (hd.le x l' h3).2
    have h7 := sumf_le (w := wtI r fw) (M := 1058576) (l := l') fun x _ => (h.wt fw x).2
    have h8 : (l'.length : Int) * 1058576 ≤ 25 * 1058576 := by
      have := h3.len h4
      have : (l'.length : Int) ≤ 25 := by omega
      omega
    obtain ⟨q, rfl⟩ := h1.head
    have h9 := sumf_nn (w := wtI r fw) (l := q) fun z _ => by have := h.wt fw z; omega
    have h10 := h.wt fw x
    simp only [sumf] at h2
    omega
  unfold M.f78
  simp only [e0, Option.bind_eq_bind, Option.bind_some, rl_len]
  refine bndX (P := fun now => Fst r g R r.2.2.2.2.length now) (loopC (fuel := fuel) (N := r.2.2.2.2.length) (s := (-1 : Int)) (fun j (s : Int) => (s, (j : Int))) (fun j now => Fst r g R j now) id (by omega) ⟨.inl rfl, fun k hk => absurd hk (by omega)⟩ ?_ ?_) ?_
  · rintro j now hj hI
    have hx : inR r (j : Int) = true := inR_iff.2 ⟨by omega, by omega⟩
    have e1 : idx r.2.2.2.2 (j : Int) = some (tnJ r j) := idx_getD hj
    have et : (tn r (j : Int)).1 = (tnJ r j).1 := rfl
    simp only [lt_dec hj, if_true, idx_rl hj, e1, h.e83 hx, Option.bind_some, wr_succ (show j < 4294967296 by omega)]
    have keep : ¬ ((tn r (j : Int)).1 = g ∧ bgI r (j : Int) ≤ 0 ∧ R (j : Int) < far) → Fst r g R (j + 1) now := fun hn => by
      refine ⟨hI.is.imp id fun q => ⟨q.1, by omega, q.2.2⟩, fun k hk a b d => ?_⟩
      by_cases e : k = j
      · subst e; exact absurd ⟨a, b, d⟩ hn
      · exact hI.le k (by omega) a b d
    by_cases q0 : R (j : Int) < 1099511627776
    · simp only [decide_eq_true q0, guardO, Option.bind_some, Bool.true_and]
      by_cases q1 : (tnJ r j).1 = g
      · have e2 : ((tnJ r j).1 == g) = true := by simp [q1]
        simp only [e2, Option.bind_some, Bool.true_and]
        by_cases q2 : bgI r (j : Int) ≤ 0
        · simp only [decide_eq_true q2, Bool.true_and]
          have here : ∀ nw : Int, nw = (j : Int) → (now = -1 ∨ R (j : Int) < R now) → Fst r g R (j + 1) nw := fun nw e hh => by
            subst e
            refine ⟨.inr ⟨by omega, by omega, by rw [et]; exact q1, q2, q0⟩, fun k hk a b d => ?_⟩
            by_cases e : k = j
            · subst e; exact ⟨by omega, .inr ⟨rfl, by omega⟩⟩
            · have := hI.le k (by omega) a b d
              omega
          rcases hI.is with e | ⟨n0, n1, n2, n3, n4⟩
          · have e5 : decide (now < 0) = true := by rw [decide_eq_true_eq]; omega
            simp only [e5, Bool.not_true, Option.bind_some, Bool.true_or, if_true]
            exact ⟨_, rfl, _, rfl, here _ rfl (.inl e)⟩
          · have e5 : decide (now < 0) = false := by rw [decide_eq_false_iff_not]; omega
            have e6 : idx (rl r.2.2.2.2.length R) now = some (R now) := by
              obtain ⟨n, rfl⟩ : ∃ n : Nat, now = (n : Int) := ⟨now.toNat, by omega⟩
              exact idx_rl (by omega)
            simp only [e5, Bool.not_false, e6, Option.bind_some, Bool.false_or]
            by_cases q3 : R (j : Int) < R now
            · simp only [decide_eq_true q3, if_true, Option.bind_some]
              exact ⟨_, rfl, _, rfl, here _ rfl (.inr q3)⟩
            · simp only [decide_eq_false q3, Bool.false_eq_true, if_false, Option.bind_some]
              refine ⟨_, rfl, _, rfl, ⟨.inr ⟨n0, by omega, n2, n3, n4⟩, fun k hk a b d => ?_⟩⟩
              by_cases e : k = j
              · subst e; omega
              · exact hI.le k (by omega) a b d
        · simp only [decide_eq_false q2, Bool.false_and, Option.bind_some, Bool.false_eq_true, if_false]
          exact ⟨_, rfl, _, rfl, keep fun q => q2 q.2.1⟩
      · have e2 : ((tnJ r j).1 == g) = false := by simpa using q1
        simp only [e2, Bool.false_and, Option.bind_some, Bool.false_eq_true, if_false]
        exact ⟨_, rfl, _, rfl, keep fun q => q1 (by rw [← et]; exact q.1)⟩
    · simp only [decide_eq_false q0, Bool.false_and, guardO, Option.bind_some, Bool.false_eq_true, if_false]
      exact ⟨_, rfl, _, rfl, keep fun q => q0 q.2.2⟩
  · intro s _; simp [lt_dec_self]
  rintro now hF
  -- the list of turns
  have chain : ∀ (n : Nat) (fl : Nat) (x : Int) (out : List Int), inR r x = true → R x < far → (R x).toNat ≤ n → n + 1 < fl → out.length + n ≤ 30000000 → ∃ G, Gr r (wtI r fw) R x G ∧
      loopM (ρ := (List Int)) (fun s_46 : Int × (List Int) =>
      (if (decide (0 ≤ s_46.1)) = true then (
      (app s_46.2 ([s_46.1] : List Int)).bind fun z_51 =>
      (idx (rl r.2.2.2.2.length R) s_46.1).bind fun v_54 =>
      (idx r.2.2.2.2 s_46.1).bind fun v_56 =>
      (M.f139 v_56 fw).bind fun v_58 =>
      (loopM (ρ := Int) (fun s_60 : Int × Int =>
        (if ((decide (0 ≤ s_60.2)) && (decide (0 < (wr (v_54 - v_58))))) = true then (
        (M.f84 r s_46.1 s_60.2).bind fun v_64 =>
        (guardO v_64 (idx (rl r.2.2.2.2.length R) s_60.2)).bind fun v_66 =>
        (if (v_64 && (v_66 == (wr (v_54 - v_58)))) = true then (
        some s_60.2)
        else (
        some s_60.1)).bind fun y_69 =>
        some (.again (y_69, (wr (s_60.2 - 1)))))
        else (
        some (.leave s_60.1)))) fuel (((-1), (wr ((r.2.2.2.2.length : Int) - 1))) : Int × Int)).bind fun o_61 =>
        some (.again (o_61, z_51)))
      else (
      some (.leave s_46.2)))) fl ((x, out) : Int × (List Int)) = some (out ++ G) := by
    intro n
    induction n with
    | zero => intro fl x out hx hl hn; have := small x hx hl; omega
    | succ n ih =>
      intro fl x out hx hl hn hfl hout
      obtain ⟨m, rfl⟩ : ∃ m, fl = m + 1 := ⟨fl - 1, by omega⟩
      have hs := small x hx hl
      have hx' := inR_iff.1 hx
      have hw := h.wt fw x
      obtain ⟨x', rfl⟩ : ∃ x' : Nat, x = (x' : Int) := ⟨x.toNat, by omega⟩
      have e1 : idx r.2.2.2.2 (x' : Int) = some (tnJ r x') := idx_getD (by omega)
      have e2 : decide ((0 : Int) ≤ (x' : Int)) = true := by simp
      obtain ⟨m1, m2⟩ := Gr.more hd hw1 hx hl
      unfold loopM
      simp only [e2, if_true, app_one (show out.length ≤ 4294967295 by omega), idx_rl (show x' < r.2.2.2.2.length by omega), e1, f139_eq h, Option.bind_some, wr_id (show -9223372036854775808 ≤ R (x' : Int) - wtI r fw (x' : Int) by omega) (show R (x' : Int) - wtI r fw (x' : Int) ≤ 9223372036854775807 by omega)]
      by_cases q0 : 0 < R (x' : Int) - wtI r fw (x' : Int)
      · -- it goes on
        have inner := loopC (fuel := fuel) (N := r.2.2.2.2.length) (s := (-1 : Int)) (ρ := Int) (f := fun s_60 : Int × Int =>
          (if ((decide (0 ≤ s_60.2)) && (decide (0 < R (x' : Int) - wtI r fw (x' : Int)))) = true then (
          (M.f84 r (x' : Int) s_60.2).bind fun v_64 =>
          (guardO v_64 (idx (rl r.2.2.2.2.length R) s_60.2)).bind fun v_66 =>
          (if (v_64 && (v_66 == R (x' : Int) - wtI r fw (x' : Int))) = true then (
          some s_60.2)
          else (
          some s_60.1)).bind fun y_69 =>
          some (.again (y_69, (wr (s_60.2 - 1)))))
          else (
          some (.leave s_60.1)))) (fun j (s : Int) => (s, (r.2.2.2.2.length : Int) - 1 - (j : Int))) (fun j nx => Nxt r R (x' : Int) (R (x' : Int) - wtI r fw (x' : Int)) (r.2.2.2.2.length - j) nx) id (by omega) ⟨.inl rfl, fun k hk hk2 => absurd hk2 (by omega)⟩ ?_ ?_
        · obtain ⟨nx, i1, i2⟩ := inner
          have ew : wr ((r.2.2.2.2.length : Int) - 1) = (r.2.2.2.2.length : Int) - 1 - ((0 : Nat) : Int) := by rw [wr_id (by omega) (by omega)]; omega
          rw [← ew] at i1
          rw [i1]
          simp only [id, Option.bind_some]
          rw [Nat.sub_self] at i2
          obtain ⟨k, hk, hfk, hRk⟩ := m2 q0
          have hk' := inR_iff.1 hk
          have hle := i2.le k.toNat (by omega) (by omega)
          rw [show ((k.toNat : Nat) : Int) = k by omega] at hle
          have hle := hle hfk hRk
          rcases i2.is with e | ⟨n0, n1, n2, n3⟩
          · omega
          · have hnx : inR r nx = true := inR_iff.2 ⟨by omega, n1⟩
            obtain ⟨G, g1, g2⟩ := ih m nx (out ++ [(x' : Int)]) hnx (by omega) (by omega) (by omega) (by rw [List.length_append]; simp; omega)
            refine ⟨(x' : Int) :: G, .go q0 hnx n2 n3 (fun k2 hk2 hf2 hR2 => ?_) g1, ?_⟩
            · have hk2' := inR_iff.1 hk2
              have := i2.le k2.toNat (by omega) (by omega)
              rw [show ((k2.toNat : Nat) : Int) = k2 by omega] at this
              exact (this hf2 hR2).2
            · rw [g2, List.append_assoc]; rfl
        · rintro j nx hj hN
          have ek : (r.2.2.2.2.length : Int) - 1 - (j : Int) = ((r.2.2.2.2.length - 1 - j : Nat) : Int) := by omega
          simp only [ek]
          have hy : inR r ((r.2.2.2.2.length - 1 - j : Nat) : Int) = true := inR_iff.2 ⟨by omega, by omega⟩
          have e5 : decide ((0 : Int) ≤ ((r.2.2.2.2.length - 1 - j : Nat) : Int)) = true := by simp
          have e6 : wr (((r.2.2.2.2.length - 1 - j : Nat) : Int) - 1) = (r.2.2.2.2.length : Int) - 1 - ((j + 1 : Nat) : Int) := by rw [wr_id (by omega) (by omega)]; omega
          simp only [e5, decide_eq_true q0, Bool.and_self, if_true, h.e84 hx hy, Option.bind_some, e6]
          have keep : ¬ (foB r (x' : Int) ((r.2.2.2.2.length - 1 - j : Nat) : Int) = true ∧ R ((r.2.2.2.2.length - 1 - j : Nat) : Int) = R (x' : Int) - wtI r fw (x' : Int)) → Nxt r R (x' : Int) (R (x' : Int) - wtI r fw (x' : Int)) (r.2.2.2.2.length - (j + 1)) nx := fun hn => by
            refine ⟨hN.is.imp id fun q => ⟨by omega, q.2⟩, fun k hk hk2 a b => ?_⟩
            by_cases e : k = r.2.2.2.2.length - 1 - j
            · subst e; exact absurd ⟨a, b⟩ hn
            · exact hN.le k (by omega) hk2 a b
          cases hfo : foB r (x' : Int) ((r.2.2.2.2.length - 1 - j : Nat) : Int) with
          | false =>
            simp only [guardO, Option.bind_some, Bool.false_and, Bool.false_eq_true, if_false]
            exact ⟨_, rfl, _, rfl, keep fun q => by rw [hfo] at q; cases q.1⟩
          | true =>
            simp only [guardO, idx_rl (show r.2.2.2.2.length - 1 - j < r.2.2.2.2.length by omega), Option.bind_some, Bool.true_and]
            by_cases q3 : R ((r.2.2.2.2.length - 1 - j : Nat) : Int) = R (x' : Int) - wtI r fw (x' : Int)
            · simp only [q3, beq_self_eq_true, if_true, Option.bind_some]
              refine ⟨_, rfl, _, rfl, ⟨.inr ⟨by omega, by omega, hfo, q3⟩, fun k hk hk2 a b => ⟨by omega, by omega⟩⟩⟩
            · have e7 : (R ((r.2.2.2.2.length - 1 - j : Nat) : Int) == R (x' : Int) - wtI r fw (x' : Int)) = false := by simpa using q3
              simp only [e7, Bool.false_eq_true, if_false, Option.bind_some]
              exact ⟨_, rfl, _, rfl, keep fun q => q3 q.2⟩
        · intro s _
          have e5 : decide ((0 : Int) ≤ (r.2.2.2.2.length : Int) - 1 - ((r.2.2.2.2.length : Nat) : Int)) = false := by rw [decide_eq_false_iff_not]; omega
          simp only [e5, Bool.false_and, Bool.false_eq_true, if_false]
          rfl
      · -- it ends
        refine ⟨[(x' : Int)], .stop (by omega), ?_⟩
        obtain ⟨f2, rfl⟩ : ∃ f2, fuel = f2 + 1 := ⟨fuel - 1, by omega⟩
        obtain ⟨m3, rfl⟩ : ∃ m3, m = m3 + 1 := ⟨m - 1, by omega⟩
        have e5 : decide (0 < R (x' : Int) - wtI r fw (x' : Int)) = false := by rw [decide_eq_false_iff_not]; exact q0
        simp only [loopM, e5, Bool.and_false, Bool.false_eq_true, if_false, Option.bind_some]
        rfl
  rcases hF.is with e | ⟨n0, n1, n2, n3, n4⟩
  · subst e
    obtain ⟨f2, rfl⟩ : ∃ f2, fuel = f2 + 1 := ⟨fuel - 1, by omega⟩
    refine ⟨[], rfl, .inl ⟨rfl, fun l' z hw he => ?_⟩⟩
    obtain ⟨x, hr, hb⟩ := hw.run he
    have hx := inR_iff.1 hr.inRx
    have := hF.le x.toNat (by omega)
    rw [show ((x.toNat : Nat) : Int) = x by omega] at this
    have := this hr.gate hb (hd.le x l' hr).1
    omega
  · have hx : inR r now = true := inR_iff.2 ⟨n0, n1⟩
    have hs := small now hx n4
    obtain ⟨G, g1, g2⟩ := chain 26464400 fuel now [] hx n4 (by omega) (by omega) (by simp)
    obtain ⟨k1, k2, k3, _, k5⟩ := g1.is hd hw1 hx n4
    obtain ⟨z, hz, hez⟩ := k1.way k3 n3
    refine ⟨G, ?_, .inr ⟨z, hz, hez, fun l' z' hw' he' => ?_⟩⟩
    · rw [g2]; rfl
    · refine wt_cO h (hz.len24 h) (hw'.len24 h) ?_
      obtain ⟨x, hr, hb⟩ := hw'.run he'
      have hx2 := inR_iff.1 hr.inRx
      obtain ⟨l1, l2⟩ := hd.le x l' hr
      have := hF.le x.toNat (by omega)
      rw [show ((x.toNat : Nat) : Int) = x by omega] at this
      obtain ⟨_, hle⟩ := this hr.gate hb l1
      rw [k2]
      by_cases q : R now < sumf (wtI r fw) l'
      · exact .inl q
      · refine .inr ⟨by omega, ?_⟩
        by_cases e : now = x
        · subst e; exact k5 l' hr (by omega)
        · obtain ⟨q1, rfl⟩ := k1.head
          obtain ⟨q2, rfl⟩ := hr.head
          unfold lexI
          rw [if_pos (by omega)]
          omega
end
end Go.Proofs.YthogdhepjcomjaaGreatDoor

/-
  What is proved: what the specification's questions about plans return.
-/
namespace Go.Proofs.YthogdhepjcomjaaGreatDoor
open Go Go.Proofs.YthogdhepjcomjaaGreatDoor.Wh

section
variable {r : S_api_Roster} {g : Int} {l : List Int}
theorem f129_eq {fuel : Nat} (h : Vd r) (hg : 0 ≤ g) (hl2 : l.length ≤ 100) (hf : 100 < fuel) : M.f129 fuel r g l = some (planB r g l) := by
  unfold M.f129 planB
  by_cases h0 : l = []
  · subst h0; simp [guardO]
  have hlen : 0 < l.length := List.length_pos_iff.2 h0
  have e0 : ((l.length : Int) == 0) = false := by rw [beq_eq_false_iff_ne]; omega
  have e1 : l.isEmpty = false := by rw [List.isEmpty_eq_false_iff]; exact h0
  have e96 : M.f96 fuel r g l = some (l.all (gtB r g) && difB l) := f96_eq (by omega) (by omega)
  have egt : l.all (gtB r g) = (l.all (inR r) && l.all (fun x => (tn r x).1 == g)) := by
    apply Bool.eq_iff_iff.2
    simp only [Bool.and_eq_true, List.all_eq_true]
    have hn : decide (g < 0) = false := by rw [decide_eq_false_iff_not]; omega
    constructor
    · intro q
      refine ⟨fun x hx => ?_, fun x hx => ?_⟩
      · have := q x hx; unfold gtB at this; rw [hn, Bool.false_or, Bool.and_eq_true] at this; exact this.1
      · have := q x hx; unfold gtB at this; rw [hn, Bool.false_or, Bool.and_eq_true] at this; exact this.2
    · rintro ⟨q1, q2⟩ x hx
      unfold gtB
      rw [hn, Bool.false_or, Bool.and_eq_true]
      exact ⟨q1 x hx, q2 x hx⟩
  rw [e0, e1, e96, egt]
  simp only [Bool.not_false, Bool.false_or, Bool.true_and, guardO, Option.bind_eq_bind, Option.bind_some]
  cases hd : difB l with
  | false => simp
  | true =>
    cases ha : l.all (inR r) with
    | false => simp
    | true =>
      cases hq : l.all (fun x => (tn r x).1 == g) with
      | false => simp
      | true =>
        have i0 : idx l 0 = some (l.getD 0 0) := idx_getD (j := 0) hlen
        have iL : idx l (wr ((l.length : Int) - 1)) = some (l.getD (l.length - 1) 0) := by
          rw [wr_id (by omega) (by omega), show (l.length : Int) - 1 = ((l.length - 1 : Nat) : Int) by omega]
          exact idx_getD (by omega)
        have r0 : inR r (l.getD 0 0) = true := all_get ha hlen
        have rL : inR r (l.getD (l.length - 1) 0) = true := all_get ha (by omega)
        simp only [Bool.and_self, Bool.not_true, Bool.not_false, i0, f83_eq h r0, Option.bind_some, Bool.false_or, Bool.true_and]
        cases hb : decide (bgI r (l.getD 0 0) ≤ 0) with
        | false => simp
        | true =>
          simp only [Bool.not_true, Bool.not_false, iL, f98_eq h rL, Option.bind_some, Bool.false_or, Bool.true_and]
          cases he : decide (enI r (l.getD (l.length - 1) 0) ≤ 0) with
          | false => simp
          | true =>
            simp only [Bool.not_true, Bool.false_eq_true, if_false, Bool.and_true]
            rw [linkB_all]
            refine bnd (loopM_test (ρ := Unit ⊕ Bool) (N := l.length - 1) (fun j : Nat => ((j + 1 : Nat) : Int)) (fun k => decide (meI r (l.getD k 0) (l.getD (k + 1) 0) ≤ 0)) (.inr false) (.inl ()) (by simp) (by omega) (fun j hj _ => ?_) ?_) ?_
            · have j1 : idx l (wr (((j + 1 : Nat) : Int) - 1)) = some (l.getD j 0) := by
                rw [wr_id (by omega) (by omega), show (((j + 1 : Nat) : Int) - 1) = (j : Int) by omega]
                exact idx_getD (by omega)
              have j2 : idx l ((j + 1 : Nat) : Int) = some (l.getD (j + 1) 0) := idx_getD (by omega)
              have rj : inR r (l.getD j 0) = true := all_get ha (by omega)
              have rj2 : inR r (l.getD (j + 1) 0) = true := all_get ha (by omega)
              have gj : (tn r (l.getD j 0)).1 = g := by have := all_get (d := 0) hq (show j < l.length by omega); simpa using this
              have gj2 : (tn r (l.getD (j + 1) 0)).1 = g := by have := all_get (d := 0) hq (show j + 1 < l.length by omega); simpa using this
              have hne : l.getD j 0 ≠ l.getD (j + 1) 0 := by
                have := difB_iff.1 hd
                rw [List.Nodup, List.pairwise_iff_getElem] at this
                have := this j (j + 1) (by omega) (by omega) (by omega)
                rw [List.getD_eq_getElem?_getD, List.getD_eq_getElem?_getD, List.getElem?_eq_getElem (by omega), List.getElem?_eq_getElem (by omega)]
                exact this
              have hfo : foB r (l.getD j 0) (l.getD (j + 1) 0) = decide (meI r (l.getD j 0) (l.getD (j + 1) 0) ≤ 0) := by
                unfold foB
                have q1 : (l.getD j 0 != l.getD (j + 1) 0) = true := by simpa using hne
                have q2 : ((tn r (l.getD j 0)).1 == (tn r (l.getD (j + 1) 0)).1) = true := by rw [gj, gj2]; simp
                rw [q1, q2]; rfl
              simp only [lt_dec (show j + 1 < l.length by omega), if_true, j1, j2, f84_eq h rj rj2, hfo, Option.bind_some, wr_succ (show j + 1 < 4294967296 by omega)]
              cases decide (meI r (l.getD j 0) (l.getD (j + 1) 0) ≤ 0) <;> rfl
            · have : decide (((l.length - 1 + 1 : Nat) : Int) < (l.length : Int)) = false := by rw [decide_eq_false_iff_not]; omega
              rw [if_neg (by rw [this]; simp)]
            · generalize ((List.range (l.length - 1)).all fun k => decide (meI r (l.getD k 0) (l.getD (k + 1) 0) ≤ 0)) = v
              cases v <;> rfl
end
end Go.Proofs.YthogdhepjcomjaaGreatDoor
