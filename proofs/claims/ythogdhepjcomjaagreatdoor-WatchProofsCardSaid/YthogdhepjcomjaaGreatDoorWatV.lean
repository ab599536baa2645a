/-
  What is proved: what the specification's questions about what can be reached, gaps and prices return.
-/
import Derived.Test.YthogdhepjcomjaaGreatDoorWatT
import Derived.Test.YthogdhepjcomjaaGreatDoorModelI
namespace Go.Proofs.YthogdhepjcomjaaGreatDoor
open Go Go.Proofs.YthogdhepjcomjaaGreatDoor.Wh

/-- A list of answers, one for each turn. -/
def bl (n : Nat) (S : Nat → Bool) : List Bool := (List.range n).map S
theorem idx_bl {n : Nat} {S : Nat → Bool} {j : Nat} (hj : j < n) : idx (bl n S) (j : Int) = some (S j) := by
  rw [idx_nat]
  simp [bl, hj]
def upB (S : Nat → Bool) (j : Nat) : Nat → Bool := fun i => if i = j then true else S i
theorem set_bl {n : Nat} {S : Nat → Bool} {j : Nat} (hj : j < n) : set1 (bl n S) (j : Int) true = some (bl n (upB S j)) := by
  unfold set1 bl
  rw [if_neg (by omega), if_pos (by simpa using hj)]
  congr 1
  apply List.ext_getElem?
  intro q
  simp only [Int.toNat_natCast, List.getElem?_set, List.length_map, List.length_range, List.getElem?_map]
  by_cases hq : j = q
  · subst hq; simp [hj, upB]
  · rw [if_neg hq]
    by_cases hqn : q < n
    · simp [hqn, upB, show ¬ q = j from fun e => hq e.symm]
    · simp [hqn]
def unB (n : Nat) (S : Nat → Bool) : Nat := ((List.range n).filter fun j => !S j).length
theorem unB_lt {n : Nat} {S : Nat → Bool} {j : Nat} (hj : j < n) (h : S j = false) : unB n (upB S j) < unB n S := by
  refine filt_lt (fun i _ hi => ?_) ⟨j, List.mem_range.2 hj, by rw [h]; rfl, by unfold upB; rw [if_pos rfl]; rfl⟩
  unfold upB at hi
  split at hi
  · cases hi
  · exact hi
section
variable {r : S_api_Roster} {g : Int}
/-- It is one that can be reached from those. -/
def isB (r : S_api_Roster) (S : Nat → Bool) (k : Nat) (j : Nat) : Bool := decide (bgI r (k : Int) ≤ 0) || (List.range j).any fun i => S i && foB r (i : Int) (k : Int)
theorem isB_succ {S : Nat → Bool} {k j : Nat} : isB r S k (j + 1) = (isB r S k j || (S j && foB r (j : Int) (k : Int))) := by
  unfold isB
  rw [List.range_succ, List.any_append]
  simp [Bool.or_assoc]
theorem f76_eq (h : Vd r) {fuel : Nat} (hf : 100 < fuel) : M.f76 fuel r g = some (rchL r g (-1)) := by
  have h24 := h.len
  unfold M.f76
  have em : mk (r.2.2.2.2.length : Int) (false : Bool) = some (bl r.2.2.2.2.length fun _ => false) := by
    unfold mk bl
    rw [if_pos (by omega)]
    congr 1
    apply List.ext_getElem?
    intro q
    by_cases hq : q < r.2.2.2.2.length
    · simp [hq]
    · simp [hq]
  simp only [em, Option.bind_eq_bind, Option.bind_some]
  have hu : ∀ S, unB r.2.2.2.2.length S ≤ 24 := fun S => Nat.le_trans (List.length_filter_le _ _) (by simpa using h24)
  refine bndE (Q := fun z => z = some (rchL r g (-1))) (loopM_inv (fun m (s : Bool × List Bool) => ∃ S, s.2 = bl r.2.2.2.2.length S ∧ m = (if s.1 = true then unB r.2.2.2.2.length S + 1 else 0) ∧ (∀ j, j < r.2.2.2.2.length → S j = true → Rch r g (-1) (j : Int)) ∧ (s.1 = false → ∀ k, k < r.2.2.2.2.length → (tnJ r k).1 = g → isB r S k r.2.2.2.2.length = true → S k = true))
    (fun z => ∃ S, z = bl r.2.2.2.2.length S ∧ ∀ j, j < r.2.2.2.2.length → (S j = true ↔ Rch r g (-1) (j : Int))) fuel (unB r.2.2.2.2.length (fun _ => false) + 1) _ ?_ ⟨_, rfl, by simp, fun j _ q => by simp at q, fun q => by simp at q⟩ ?_) ?_
  · have := hu fun _ => false
    omega
  · rintro m ⟨ch, s⟩ ⟨S, hs, hm, hR, hC⟩
    simp only at hs hm hC
    subst hs
    cases ch with
    | false =>
      simp only [Bool.false_eq_true, if_false]
      refine ⟨_, rfl, S, rfl, fun j hj => ⟨hR j hj, fun hr => ?_⟩⟩
      have key : ∀ x, Rch r g (-1) x → S x.toNat = true := by
        intro x hx
        induction hx with
        | @one x a b d e =>
          have hx := inR_iff.1 a
          refine hC rfl x.toNat (by omega) b ?_
          unfold isB
          rw [show ((x.toNat : Nat) : Int) = x by omega, decide_eq_true d]; rfl
        | @step x y hr hi hf hw ih =>
          have hx := inR_iff.1 hr.inRx
          have hy := inR_iff.1 hi
          refine hC rfl y.toNat (by omega) ((Rch.step hr hi hf hw).gate) ?_
          unfold isB
          rw [Bool.or_eq_true, List.any_eq_true]
          refine .inr ⟨x.toNat, List.mem_range.2 (by omega), ?_⟩
          rw [show ((x.toNat : Nat) : Int) = x by omega, show ((y.toNat : Nat) : Int) = y by omega, ih, hf]; rfl
      exact key _ hr
    | true =>
      simp only [if_true] at hm ⊢
      refine bndX (P := fun (z : Bool × List Bool) => ∃ S', z.2 = bl r.2.2.2.2.length S' ∧ (∀ j, j < r.2.2.2.2.length → S' j = true → Rch r g (-1) (j : Int)) ∧ (z.1 = true → unB r.2.2.2.2.length S' < unB r.2.2.2.2.length S) ∧ (z.1 = false → S' = S ∧ ∀ k, k < r.2.2.2.2.length → (tnJ r k).1 = g → isB r S k r.2.2.2.2.length = true → S k = true))
        (loopC (fuel := fuel) (N := r.2.2.2.2.length) (s := (false, bl r.2.2.2.2.length S)) (fun j (s : Bool × List Bool) => (s.1, (j : Int), s.2)) (fun k z => ∃ S', z.2 = bl r.2.2.2.2.length S' ∧ (∀ j, j < r.2.2.2.2.length → S' j = true → Rch r g (-1) (j : Int)) ∧ (z.1 = true → unB r.2.2.2.2.length S' < unB r.2.2.2.2.length S) ∧ (z.1 = false → S' = S ∧ ∀ k', k' < k → (tnJ r k').1 = g → isB r S k' r.2.2.2.2.length = true → S k' = true)) id (by omega) ⟨S, rfl, hR, (fun q => by cases q), fun _ => ⟨rfl, fun k' hk' => absurd hk' (by omega)⟩⟩ ?_ ?_) ?_
      · rintro k ⟨ch, s⟩ hk ⟨S', hs, hR', hc1, hc2⟩
        simp only at hs hc1 hc2
        subst hs
        have hx : inR r (k : Int) = true := inR_iff.2 ⟨by omega, by omega⟩
        have e1 : idx r.2.2.2.2 (k : Int) = some (tnJ r k) := idx_getD hk
        have inner : loopM (ρ := Bool) (fun s_14 : Bool × Int =>
          (if (decide (s_14.2 < (r.2.2.2.2.length : Int))) = true then (
          (guardO (!s_14.1) (idx (bl r.2.2.2.2.length S') s_14.2)).bind fun v_18 =>
          (guardO ((!s_14.1) && v_18) (M.f84 r s_14.2 (k : Int))).bind fun v_20 =>
          some (.again ((s_14.1 || (v_18 && v_20)), (wr (s_14.2 + 1)))))
          else (
          some (.leave s_14.1)))) fuel ((decide (bgI r (k : Int) ≤ 0), 0) : Bool × Int) = some (isB r S' k r.2.2.2.2.length) := by
          refine loopM_go (N := r.2.2.2.2.length) (fun j : Nat => (isB r S' k j, (j : Int))) _ ?_ (by omega) (fun j hj => ?_) (by simp)
          · unfold isB; simp
          · have hy : inR r (j : Int) = true := inR_iff.2 ⟨by omega, by omega⟩
            simp only [lt_dec hj, if_true, idx_bl hj, f84_eq h hy hx, isB_succ, wr_succ (show j < 4294967296 by omega)]
            cases isB r S' k j with
            | true => simp [guardO]
            | false =>
              cases hS : S' j with
              | false => simp [guardO]
              | true => simp [guardO]
        simp only [lt_dec hk, if_true, f83_eq h hx, Option.bind_some, inner, e1, wr_succ (show k < 4294967296 by omega)]
        have keep : ((tnJ r k).1 = g → isB r S' k r.2.2.2.2.length = true → S' k = true) → ∃ S'', bl r.2.2.2.2.length S' = bl r.2.2.2.2.length S'' ∧ (∀ j, j < r.2.2.2.2.length → S'' j = true → Rch r g (-1) (j : Int)) ∧ (ch = true → unB r.2.2.2.2.length S'' < unB r.2.2.2.2.length S) ∧ (ch = false → S'' = S ∧ ∀ k', k' < k + 1 → (tnJ r k').1 = g → isB r S k' r.2.2.2.2.length = true → S k' = true) := fun hh => by
          refine ⟨S', rfl, hR', hc1, fun q => ⟨(hc2 q).1, fun k' hk' => ?_⟩⟩
          by_cases e : k' = k
          · subst e; rw [← (hc2 q).1]; exact hh
          · exact (hc2 q).2 k' (by omega)
        by_cases hg : (tnJ r k).1 = g
        · have e2 : ((tnJ r k).1 == g) = true := by simp [hg]
          simp only [e2, Bool.true_and]
          cases hi : isB r S' k r.2.2.2.2.length with
          | false =>
            simp only [guardO, Option.bind_some, Bool.false_and, Bool.false_eq_true, if_false]
            exact ⟨_, rfl, (ch, _), rfl, keep fun _ q => by rw [hi] at q; cases q⟩
          | true =>
            simp only [guardO, idx_bl hk, Option.bind_some, Bool.true_and]
            cases hS : S' k with
            | true =>
              simp only [Bool.not_true, Bool.false_eq_true, if_false, Option.bind_some]
              exact ⟨_, rfl, (ch, _), rfl, keep fun _ _ => hS⟩
            | false =>
              simp only [Bool.not_false, if_true, set_bl hk, Option.bind_some]
              refine ⟨_, rfl, (true, _), rfl, upB S' k, rfl, fun j hj q => ?_, fun _ => ?_, fun q => by cases q⟩
              · unfold upB at q
                split at q
                · rename_i e; subst e
                  unfold isB at hi
                  rw [Bool.or_eq_true, decide_eq_true_eq, List.any_eq_true] at hi
                  rcases hi with hi | ⟨i, hi, q2⟩
                  · exact .one hx hg hi (by omega)
                  · rw [Bool.and_eq_true] at q2
                    exact .step (hR' i (List.mem_range.1 hi) q2.1) hx q2.2 (by omega)
                · exact hR' j hj q
              · have := unB_lt hk hS
                cases ch with
                | true => have := hc1 rfl; omega
                | false => rw [(hc2 rfl).1] at this ⊢; exact this
        · have e2 : ((tnJ r k).1 == g) = false := by simpa using hg
          simp only [e2, Bool.false_and, guardO, Option.bind_some, Bool.false_eq_true, if_false]
          exact ⟨_, rfl, (ch, _), rfl, keep fun q => absurd q hg⟩
      · rintro ⟨c2, s2⟩ _; simp
      · rintro ⟨c2, s2⟩ ⟨S', hs, hR', h1, h2⟩
        simp only at hs h1 h2
        subst hs
        refine ⟨_, rfl, if c2 = true then unB r.2.2.2.2.length S' + 1 else 0, ?_, S', rfl, rfl, hR', fun q => ?_⟩
        · cases c2 with
          | true => have := h1 rfl; simp only [if_true]; omega
          | false => simp only [Bool.false_eq_true, if_false]; omega
        · simp only at q
          obtain ⟨e, h3⟩ := h2 q
          subst e
          exact h3
  · rintro z ⟨S, rfl, hS⟩
    have e3 : (bl r.2.2.2.2.length S).length = r.2.2.2.2.length := by simp [bl]
    simp only [e3]
    have fin : loopM (ρ := (List Int)) (fun s_61 : Int × (List Int) =>
      (if (decide (s_61.1 < (r.2.2.2.2.length : Int))) = true then (
      (idx (bl r.2.2.2.2.length S) s_61.1).bind fun v_66 =>
      (if v_66 = true then (
      (app s_61.2 ([s_61.1] : List Int)).bind fun z_71 =>
      some z_71)
      else (
      some s_61.2)).bind fun y_69 =>
      some (.again ((wr (s_61.1 + 1)), y_69)))
      else (
      some (.leave s_61.2)))) fuel ((0, ([] : List Int)) : Int × (List Int)) = some (selI S r.2.2.2.2.length) := by
      refine loopM_go (N := r.2.2.2.2.length) (fun j : Nat => ((j : Int), selI S j)) _ rfl (by omega) (fun j hj => ?_) (by simp)
      have := selI_len S j
      simp only [lt_dec hj, if_true, idx_bl hj, Option.bind_some, selI_succ, wr_succ (show j < 4294967296 by omega)]
      cases S j with
      | false => simp
      | true => simp only [if_true, app_one (show (selI S j).length ≤ 4294967295 by omega), Option.bind_some]
    rw [fin]
    simp only [Option.bind_some, Option.some.injEq]
    unfold rchL
    refine selI_congr fun j hj => ?_
    apply Bool.eq_iff_iff.2
    exact (hS j hj).trans (@decide_eq_true_iff _ (Classical.propDecidable _)).symm
theorem f19_eq {fuel : Nat} (hf : 100 < fuel) : M.f19 fuel r g = some (if gateE r g = 0 then (rchL r g (-1), 0) else ([], gateE r g)) := by
  unfold M.f19
  rw [f75_eq (by omega)]
  simp only [Option.bind_eq_bind, Option.bind_some]
  by_cases q : gateE r g = 0
  · rw [if_neg (by simp [q]), if_pos q, f76_eq (gateE_zero q).1 hf]
    rfl
  · rw [if_pos (by simpa using q), if_neg q]
theorem f21_eq {fuel : Nat} (hf : 40000000 < fuel) : M.f21 fuel r g = some (gapV r g) := by
  unfold M.f21 gapV
  rw [f75_eq (by omega)]
  simp only [Option.bind_eq_bind, Option.bind_some]
  by_cases q : gateE r g = 0
  · obtain ⟨h, h0, h1⟩ := gateE_zero q
    obtain ⟨l, e, hb⟩ := f78_so h.toVw (g := g) (fw := false) hf
    obtain ⟨b1, b2⟩ := hb.plan
    rw [if_neg (by simp [q]), if_pos q, e]
    simp only [Option.bind_some]
    by_cases hp : ∃ l, planB r g l = true
    · have hne := b1.2 hp
      have e2 : decide (0 < (l.length : Int)) = true := by rw [decide_eq_true_eq]; have := List.length_pos_iff.2 hne; omega
      rw [if_pos e2, if_pos (rch_late.2 hp)]
    · have e3 : l = [] := by
        by_cases q2 : l = []
        · exact q2
        · exact absurd (b1.1 q2) hp
      subst e3
      rw [if_neg (by simp), if_neg (fun q2 => hp (rch_late.1 q2)), f76_eq h (by omega)]
      rfl
  · rw [if_pos (by simpa using q), if_neg q]
end
end Go.Proofs.YthogdhepjcomjaaGreatDoor

/-
  What is proved: what the specification's prices are; how it checks gaps and prices.
-/
namespace Go.Proofs.YthogdhepjcomjaaGreatDoor
open Go Go.Proofs.YthogdhepjcomjaaGreatDoor.Wh

section
variable {r : S_api_Roster} {g : Int}
/-- What is so of prices while they are lessened. -/
structure Pri (r : S_api_Roster) (g : Int) (best : List Int) (O : Int → List Int) (t : Nat) (P : Int → Int) : Prop where
  lo : ∀ j : Nat, j < r.2.2.2.2.length → prV r g best O j ≤ P (j : Int)
  hi : ∀ j : Nat, j < r.2.2.2.2.length → (tnJ r j).1 = g → P (j : Int) ≤ csum r best
  no : ∀ j : Nat, j < r.2.2.2.2.length → (tnJ r j).1 ≠ g → P (j : Int) = 0
  cov : ∀ l x, Way r g l x → l.length ≤ t → P x ≤ csum r l
theorem f23_so (h : Vd r) (h0 : 0 ≤ g) (h1 : g < r.1) {fuel : Nat} (hf : 40000000 < fuel) {best : List Int} {O : Int → List Int} (hb : IsBest r g (cB r) best) (hO : Least r g (cB r) O) : M.f23 fuel r g = some (if best = [] then ([], 4) else (prL r g best O, 0)) := by
  have h24 := h.len
  obtain ⟨l, e, hb2⟩ := f78_so h.toVw (g := g) (fw := false) hf
  have e3 : l = best := hb2.uniq (by_ord h) hb
  subst e3
  unfold M.f23
  rw [f75_eq (by omega), gateE_of h h0 h1]
  simp only [Option.bind_eq_bind, Option.bind_some, bne_self_eq_false, Bool.false_eq_true, if_false, e]
  by_cases q : l = []
  · subst q; rfl
  have e4 : ((l.length : Int) == 0) = false := by rw [beq_eq_false_iff_ne]; have := List.length_pos_iff.2 q; omega
  rw [if_neg q]
  obtain ⟨zb, hwb, heb⟩ := planB_iff.1 (hb.plan.2 q)
  have hgd := hwb.good h
  have hcap := csum_cap h hwb
  have e54 : M.f54 fuel r l = some (csum r l, 0) := by
    rw [f54_eq (by omega) (by omega) (by omega)]
    unfold cosV
    have e : (l.all (inR r) && difB l) = true := by rw [hgd.1.1, difB_iff.2 hwb.nodup]; rfl
    rw [if_pos h.h, if_pos e, sumW_eq h (by omega) l.length (Nat.le_refl _), List.take_length]
  -- what the prices prove
  have hchk := chkC_zero.1 (pr_chk h h0 h1 hb hO q)
  have hpl : (prL r g l O).length = r.2.2.2.2.length := hchk.2.2.2.1
  have hget : ∀ k, k < r.2.2.2.2.length → (prL r g l O).getD k 0 = prV r g l O k := fun k hk => by
    unfold prL
    rw [List.getD_eq_getElem?_getD, List.getElem?_map, List.getElem?_range hk]; rfl
  have hnn : ∀ k, k < r.2.2.2.2.length → 0 ≤ prV r g l O k := fun k hk => by
    have := hchk.2.2.2.2.1 k (by omega)
    rw [hget k hk] at this; exact this.1
  have hle : ∀ k, k < r.2.2.2.2.length → prV r g l O k ≤ csum r l := fun k hk => by
    unfold prV imin
    split
    · split
      · omega
      · split <;> omega
    · omega
  have hedge : ∀ i k : Nat, i < r.2.2.2.2.length → k < r.2.2.2.2.length → (tnJ r k).1 = g → foB r (i : Int) (k : Int) = true → prV r g l O k ≤ prV r g l O i + cs r (k : Int) := fun i k hi hk hg hfo => by
    have := (hchk.2.2.2.2.2 k hk hg).2.2 i hi hfo
    rw [hget k hk, hget i hi] at this; exact this
  have hbeg : ∀ k : Nat, k < r.2.2.2.2.length → (tnJ r k).1 = g → bgI r (k : Int) ≤ 0 → prV r g l O k ≤ cs r (k : Int) := fun k hk hg hbk => by
    have := (hchk.2.2.2.2.2 k hk hg).1 hbk
    rw [hget k hk] at this; exact this
  simp only [e4, Bool.false_eq_true, if_false, e54, Option.bind_some]
  obtain ⟨P0, hP0⟩ : ∃ P0 : Int → Int, ∀ x, P0 x = if (tn r x).1 = g then (if bgI r x ≤ 0 then imin (csum r l) (cs r x) else csum r l) else 0 := ⟨_, fun _ => rfl⟩
  refine bndE (Q := fun z => z = some (prL r g l O, 0)) (P := fun s => s = rl r.2.2.2.2.length P0) (Exists.intro _ (And.intro (loopM_go (N := r.2.2.2.2.length) (fuel := fuel) (s := ((0, []) : Int × List Int)) (fun j : Nat => ((j : Int), rl j P0)) (rl r.2.2.2.2.length P0) rfl (by omega) (fun j hj => ?_) ?_) rfl)) ?_
  · have e1 : idx r.2.2.2.2 (j : Int) = some (tnJ r j) := idx_getD hj
    have hx : inR r (j : Int) = true := inR_iff.2 ⟨by omega, by omega⟩
    have ecs : (tnJ r j).2.2.2.2.2 = cs r (j : Int) := rfl
    have et : (tn r (j : Int)).1 = (tnJ r j).1 := rfl
    simp only [lt_dec hj, if_true, e1, f83_eq h hx, Option.bind_some, rl_succ, ecs, hP0, et, wr_succ (show j < 4294967296 by omega)]
    by_cases q1 : (tnJ r j).1 = g
    · have e2 : ((tnJ r j).1 == g) = true := by simp [q1]
      simp only [e2, if_pos q1, if_true, guardO, Option.bind_some, Bool.true_and]
      by_cases q2 : bgI r (j : Int) ≤ 0
      · simp only [decide_eq_true q2, if_true, if_pos q2, Option.bind_some, app_one (show (rl j P0).length ≤ 4294967295 by rw [rl_len]; omega)]
      · simp only [decide_eq_false q2, Bool.false_eq_true, if_false, if_neg q2, Option.bind_some, app_one (show (rl j P0).length ≤ 4294967295 by rw [rl_len]; omega)]
    · have e2 : ((tnJ r j).1 == g) = false := by simpa using q1
      simp only [e2, if_neg q1, guardO, Option.bind_some, Bool.false_and, Bool.false_eq_true, if_false, app_one (show (rl j P0).length ≤ 4294967295 by rw [rl_len]; omega)]
  · simp
  rintro s rfl
  have hb0 : Pri r g l O 1 P0 := by
    refine ⟨fun j hj => ?_, fun j hj hg => ?_, fun j hj hg => ?_, fun l' x hw hl => ?_⟩
    · rw [hP0]
      have et : (tn r (j : Int)).1 = (tnJ r j).1 := rfl
      rw [et]
      split
      · rename_i hg
        split
        · rename_i hbk
          have := hbeg j hj hg hbk
          have := hle j hj
          unfold imin; split <;> omega
        · exact hle j hj
      · rename_i hg
        unfold prV; rw [if_neg hg]; omega
    · rw [hP0, if_pos (show (tn r (j : Int)).1 = g from hg)]
      split
      · unfold imin; split <;> omega
      · omega
    · rw [hP0, if_neg (show ¬ (tn r (j : Int)).1 = g from hg)]
    · cases hw with
      | one a b d =>
        rw [hP0, if_pos b, if_pos d]
        simp only [csum]
        unfold imin; split <;> omega
      | snoc hw _ _ _ =>
        have := List.length_pos_iff.2 hw.ne
        rw [List.length_append, List.length_singleton] at hl
        omega
  refine bndE (Q := fun z => z = some (prL r g l O, 0)) (P := fun s => ∃ P, s = rl r.2.2.2.2.length P ∧ Pri r g l O (r.2.2.2.2.length + 1) P) (loopC (fuel := fuel) (N := r.2.2.2.2.length) (s := rl r.2.2.2.2.length P0) (fun j (s : List Int) => ((j : Int), s)) (fun t s => ∃ P, s = rl r.2.2.2.2.length P ∧ Pri r g l O (t + 1) P) id (by omega) ⟨P0, rfl, hb0⟩ ?_ ?_) ?_
  · rintro t s ht ⟨P, rfl, hP⟩
    simp only [lt_dec ht, if_true]
    refine bndX (P := fun s => ∃ P, s = rl r.2.2.2.2.length P ∧ Pri r g l O (t + 1) P ∧ ∀ i' : Nat, i' < r.2.2.2.2.length → ∀ k : Nat, k < r.2.2.2.2.length → (tnJ r k).1 = g → foB r (i' : Int) (k : Int) = true → ∀ l', Way r g l' (i' : Int) → l'.length ≤ t + 1 → P (k : Int) ≤ csum r l' + cs r (k : Int))
      (loopC (fuel := fuel) (N := r.2.2.2.2.length) (s := rl r.2.2.2.2.length P) (fun j (s : List Int) => ((j : Int), s)) (fun i s => ∃ P, s = rl r.2.2.2.2.length P ∧ Pri r g l O (t + 1) P ∧ ∀ i' : Nat, i' < i → ∀ k : Nat, k < r.2.2.2.2.length → (tnJ r k).1 = g → foB r (i' : Int) (k : Int) = true → ∀ l', Way r g l' (i' : Int) → l'.length ≤ t + 1 → P (k : Int) ≤ csum r l' + cs r (k : Int)) id (by omega) ⟨P, rfl, hP, fun i' hi' => absurd hi' (by omega)⟩ ?_ ?_) ?_
    · clear hP P
      rintro i s hi ⟨P, rfl, hP, hI⟩
      have hx : inR r (i : Int) = true := inR_iff.2 ⟨by omega, by omega⟩
      simp only [lt_dec hi, if_true]
      refine bndX (P := fun s => ∃ P, s = rl r.2.2.2.2.length P ∧ Pri r g l O (t + 1) P ∧ (∀ i' : Nat, i' < i → ∀ k : Nat, k < r.2.2.2.2.length → (tnJ r k).1 = g → foB r (i' : Int) (k : Int) = true → ∀ l', Way r g l' (i' : Int) → l'.length ≤ t + 1 → P (k : Int) ≤ csum r l' + cs r (k : Int)) ∧ ∀ k : Nat, k < r.2.2.2.2.length → (tnJ r k).1 = g → foB r (i : Int) (k : Int) = true → ∀ l', Way r g l' (i : Int) → l'.length ≤ t + 1 → P (k : Int) ≤ csum r l' + cs r (k : Int))
        (loopC (fuel := fuel) (N := r.2.2.2.2.length) (s := rl r.2.2.2.2.length P) (fun j (s : List Int) => ((j : Int), s)) (fun k s => ∃ P, s = rl r.2.2.2.2.length P ∧ Pri r g l O (t + 1) P ∧ (∀ i' : Nat, i' < i → ∀ k : Nat, k < r.2.2.2.2.length → (tnJ r k).1 = g → foB r (i' : Int) (k : Int) = true → ∀ l', Way r g l' (i' : Int) → l'.length ≤ t + 1 → P (k : Int) ≤ csum r l' + cs r (k : Int)) ∧ ∀ k' : Nat, k' < k → (tnJ r k').1 = g → foB r (i : Int) (k' : Int) = true → ∀ l', Way r g l' (i : Int) → l'.length ≤ t + 1 → P (k' : Int) ≤ csum r l' + cs r (k' : Int)) id (by omega) ⟨P, rfl, hP, hI, fun k' hk' => absurd hk' (by omega)⟩ ?_ ?_) ?_
      · clear hP hI P
        rintro k s hk ⟨P, rfl, hP, hI, hK⟩
        have hy : inR r (k : Int) = true := inR_iff.2 ⟨by omega, by omega⟩
        have e1 : idx r.2.2.2.2 (k : Int) = some (tnJ r k) := idx_getD hk
        have ecs : (tnJ r k).2.2.2.2.2 = cs r (k : Int) := rfl
        have hcs := h.cs (k : Int)
        have same : ((tnJ r k).1 = g → foB r (i : Int) (k : Int) = true → ∀ l', Way r g l' (i : Int) → l'.length ≤ t + 1 → P (k : Int) ≤ csum r l' + cs r (k : Int)) → ∃ P', rl r.2.2.2.2.length P = rl r.2.2.2.2.length P' ∧ Pri r g l O (t + 1) P' ∧ (∀ i' : Nat, i' < i → ∀ k : Nat, k < r.2.2.2.2.length → (tnJ r k).1 = g → foB r (i' : Int) (k : Int) = true → ∀ l', Way r g l' (i' : Int) → l'.length ≤ t + 1 → P' (k : Int) ≤ csum r l' + cs r (k : Int)) ∧ ∀ k' : Nat, k' < k + 1 → (tnJ r k').1 = g → foB r (i : Int) (k' : Int) = true → ∀ l', Way r g l' (i : Int) → l'.length ≤ t + 1 → P' (k' : Int) ≤ csum r l' + cs r (k' : Int) := fun hs => by
          refine ⟨P, rfl, hP, hI, fun k' hk' => ?_⟩
          by_cases e : k' = k
          · subst e; exact hs
          · exact hK k' (by omega)
        simp only [lt_dec hk, if_true, e1, f84_eq h hx hy, Option.bind_some, idx_rl hk, idx_rl hi, ecs, wr_succ (show k < 4294967296 by omega)]
        by_cases q1 : (tnJ r k).1 = g
        · have e2 : ((tnJ r k).1 == g) = true := by simp [q1]
          simp only [e2, guardO, Option.bind_some, Bool.true_and]
          cases hfo : foB r (i : Int) (k : Int) with
          | false =>
            simp only [Option.bind_some, Bool.false_eq_true, if_false]
            exact ⟨_, rfl, _, rfl, same fun _ q => by rw [hfo] at q; cases q⟩
          | true =>
            have hgi : (tnJ r i).1 = g := by have := (foB_iff.1 hfo).2.1; rw [← q1]; exact this
            have p1 := hP.lo i hi
            have p2 := hP.hi i hi hgi
            have p3 := hnn i hi
            have p4 := hP.lo k hk
            have p5 := hP.hi k hk q1
            simp only [if_true]
            rw [wr_id (n := P (i : Int) + cs r (k : Int)) (by omega) (by omega), set_rl hk]
            have hle2 : ∀ x, upI P (k : Int) (imin (P (k : Int)) (P (i : Int) + cs r (k : Int))) x ≤ P x := fun x => by
              unfold upI imin
              split
              · rename_i e; subst e; split <;> omega
              · exact Int.le_refl _
            refine ⟨_, rfl, _, rfl, _, rfl, ⟨fun j hj => ?_, fun j hj hg => Int.le_trans (hle2 _) (hP.hi j hj hg), fun j hj hg => ?_, fun l' x hw hl => Int.le_trans (hle2 _) (hP.cov l' x hw hl)⟩, fun i' hi' k' hk' a b l' hw hl => Int.le_trans (hle2 _) (hI i' hi' k' hk' a b l' hw hl), fun k' hk' a b l' hw hl => ?_⟩
            · unfold upI imin
              split
              · rename_i e
                have e' : j = k := by omega
                subst e'
                have := hedge i j hi hj q1 hfo
                split <;> omega
              · exact hP.lo j hj
            · unfold upI
              rw [if_neg (fun e => hg (by have e' : j = k := by omega
                                          subst e'; exact q1))]
              exact hP.no j hj hg
            · by_cases e : k' = k
              · subst e
                have := hP.cov l' (i : Int) hw hl
                unfold upI imin
                rw [if_pos rfl]
                split <;> omega
              · exact Int.le_trans (hle2 _) (hK k' (by omega) a b l' hw hl)
        · have e2 : ((tnJ r k).1 == g) = false := by simpa using q1
          simp only [e2, guardO, Option.bind_some, Bool.false_and, Bool.false_eq_true, if_false]
          exact ⟨_, rfl, _, rfl, same fun q => absurd q q1⟩
      · intro s _; simp
      · clear hP hI P
        rintro s ⟨P, rfl, hP, hI, hK⟩
        rw [wr_succ (by omega)]
        refine ⟨_, rfl, _, rfl, P, rfl, hP, fun i' hi' => ?_⟩
        by_cases e : i' = i
        · subst e; exact hK
        · exact hI i' (by omega)
    · intro s _; simp
    · clear hP P
      rintro s ⟨P, rfl, hP, hI⟩
      rw [wr_succ (by omega)]
      refine ⟨_, rfl, _, rfl, P, rfl, hP.lo, hP.hi, hP.no, fun l' x hw hl => ?_⟩
      cases hw with
      | one a b d => exact hP.cov _ _ (.one a b d) (by simp)
      | @snoc l2 x2 y hw2 hi hf2 hn =>
        have hx := inR_iff.1 hw2.inRx
        have hy := inR_iff.1 hi
        have := hI x2.toNat (by omega) x.toNat (by omega) ((Way.snoc hw2 hi hf2 hn).gate)
        rw [show ((x2.toNat : Nat) : Int) = x2 by omega, show ((x.toNat : Nat) : Int) = x by omega] at this
        rw [List.length_append, List.length_singleton] at hl
        have := this hf2 l2 hw2 (by omega)
        rw [csum_app]
        simp only [csum]
        omega
  · intro s _; simp
  · rintro s ⟨P, rfl, hP⟩
    simp only [Option.some.injEq, Prod.mk.injEq, and_true]
    unfold rl prL
    apply List.map_congr_left
    intro j hj
    have hj := List.mem_range.1 hj
    have p1 := hP.lo j hj
    by_cases hg : (tnJ r j).1 = g
    · have p2 := hP.hi j hj hg
      unfold prV at *
      rw [if_pos hg] at *
      split at p1
      · rename_i e; rw [if_pos e]; omega
      · rename_i e
        rw [if_neg e]
        have hw := hO.way _ e
        have := hP.cov _ _ hw (by
          have h2 : ((O (j : Int)).map Int.toNat).Nodup := nodup_nat (fun x hx => (inR_iff.1 (hw.all x hx).1).1) hw.nodup
          have h3 := nodup_le r.2.2.2.2.length ((O (j : Int)).map Int.toNat) h2 fun y hy => by
            obtain ⟨a, ha, rfl⟩ := List.mem_map.1 hy
            have := inR_iff.1 (hw.all a ha).1
            omega
          rw [List.length_map] at h3
          omega)
        unfold imin at *
        split at p1
        · rename_i q2; rw [if_pos q2]; omega
        · rename_i q2; rw [if_neg q2]; omega
    · have := hP.no j hj hg
      unfold prV
      rw [if_neg hg]; exact this
end
end Go.Proofs.YthogdhepjcomjaaGreatDoor
