/-
  What is proved: for all rosters, gates, lists and numbers the model of WatchLeast returns true.
-/
import Derived.Test.YthogdhepjcomjaaGreatDoorWatQ
import Derived.Test.YthogdhepjcomjaaGreatDoorModelM
namespace Go.Proofs.YthogdhepjcomjaaGreatDoor
open Go Go.Proofs.YthogdhepjcomjaaGreatDoor.Wh

theorem cost_way {r : S_api_Roster} (h : Vd r) {g : Int} {l : List Int} {x : Int} (hw : Way r g l x) : M.f53 r l = some (csum r l, 0) := by
  have hg := (hw.good h)
  rw [f53_eq (by omega)]
  unfold cosV
  have e : (l.all (inR r) && difB l) = true := by rw [hg.1.1, difB_iff.2 hw.nodup]; rfl
  rw [if_pos h.h, if_pos e, sumW_eq h (by omega) l.length (Nat.le_refl _), List.take_length]
theorem law_WatchLeast (p0 : S_api_Roster) (p1 : Int) (p2 : List Int) (p3 : Int) (p4 : List Int) : ∃ fuel, M.f11 fuel p0 p1 p2 p3 p4 = some true := by
  refine ⟨wayB p0.2.2.2.2.length + 1000, ?_⟩
  unfold M.f11
  rw [sane_at (by omega), f33_eq (by omega)]
  simp only [Option.bind_eq_bind, Option.bind_some, Bool.not_true, Bool.false_eq_true, if_false, f17_eq (show [p2, p4].length ≤ 4294967296 by simp)]
  cases hv : vldB p0 with
  | false => rfl
  | true =>
    have h : Vd p0 := ⟨hv⟩
    simp only [Bool.not_true, Bool.not_false, guardO_t, Option.bind_some, Bool.false_or]
    split
    · rfl
    rename_i hc
    simp only [Bool.or_eq_true, Bool.not_eq_true', decide_eq_true_eq] at hc
    have hfew : fewB p0 [p2, p4] = true := by
      cases q : fewB p0 [p2, p4] with
      | true => rfl
      | false => exact absurd (.inl (.inl q)) hc
    have hl : p2.length ≤ 100 ∧ p4.length ≤ 100 := by
      unfold fewB at hfew
      simp only [List.all_cons, List.all_nil, Bool.and_true, Bool.and_eq_true, decide_eq_true_eq] at hfew
      omega
    have hg0 : 0 ≤ p1 := by omega
    have hg1 : p1 < p0.1 := by omega
    have hfu : wayB p0.2.2.2.2.length < wayB p0.2.2.2.2.length + 1000 := by omega
    have hf1 : 100 < wayB p0.2.2.2.2.length + 1000 := by omega
    generalize wayB p0.2.2.2.2.length + 1000 = fuel at *
    obtain ⟨a, e1, ha⟩ := f34_so h hg0 hg1 hfu
    obtain ⟨b, e2, hb⟩ := f59_so h hg0 hg1 hfu
    obtain ⟨a', O, ha', hO, e3⟩ := f22_so h hg0 hg1 hfu
    have eaa := ha'.uniq (by_ord h) ha
    subst eaa
    have h24 := h.len
    obtain ⟨pa1, pa2⟩ := ha.plan
    obtain ⟨pb1, pb2⟩ := hb.plan
    have hbl := hb.len h
    rw [e1, e2, e3]
    simp only [Option.bind_some, f35_eq hl.1 hf1, f35_eq (show b.length ≤ 100 by omega) hf1, chkP_zero h hg0 hg1]
    by_cases hp : ∃ l, planB p0 p1 l = true
    · have hne := pa1.2 hp
      have hnb := pb1.2 hp
      obtain ⟨za, hwa, hea⟩ := planB_iff.1 (pa2 hne)
      obtain ⟨zb, hwb, heb⟩ := planB_iff.1 (pb2 hnb)
      have ea : a'.isEmpty = false := by rw [List.isEmpty_eq_false_iff]; exact hne
      have eb : b.isEmpty = false := by rw [List.isEmpty_eq_false_iff]; exact hnb
      have hpl : (prL p0 p1 a' O).length = p0.2.2.2.2.length := by unfold prL; simp
      have c1 := pr_chk h hg0 hg1 ha hO hne
      have c2 := cB_le (ha.le (pb2 hnb))
      have c3 := cF_le (hb.le (pa2 hne))
      rw [if_neg hne]
      simp only [ea, eb, Bool.not_false, bne_self_eq_false, Bool.or_false, Bool.and_false, Bool.not_true, Bool.false_and, Bool.false_eq_true, if_false, cost_way h hwa, cost_way h hwb, Option.bind_some, guardO,
        f27_eq (show (prL p0 p1 a' O).length ≤ 100 by omega), c1, pb2 hnb, if_true, Bool.false_or]
      have d1 : decide (csum p0 b < csum p0 a') = false := by rw [decide_eq_false_iff_not]; omega
      have d2 : decide ((a'.length : Int) < (b.length : Int)) = false := by rw [decide_eq_false_iff_not]; omega
      simp only [d1, d2, Bool.or_self, Bool.false_eq_true, if_false, f27_eq hl.2]
      have d3 : (decide (csum p0 a' < p3) && ((guardO (decide (csum p0 a' < p3)) (some (chkC p0 p1 p3 p4))).getD 0 == 0)) = false := by
        cases q : decide (csum p0 a' < p3) with
        | false => rfl
        | true =>
          rw [decide_eq_true_eq] at q
          simp only [guardO, Option.getD_some, Bool.true_and]
          rw [beq_eq_false_iff_ne]
          intro hq
          have z := chkC_zero.1 hq
          have hz := inR_iff.1 hwa.inRx
          have k1 := chkC_le hq hwa
          have k2 := (z.2.2.2.2.2 za.toNat (by omega) hwa.gate).2.1
          rw [show ((za.toNat : Nat) : Int) = za by omega] at k2
          have := k2 hea
          omega
      obtain ⟨w, hw⟩ : ∃ w, guardO (decide (csum p0 a' < p3)) (some (chkC p0 p1 p3 p4)) = some w := by
        cases decide (csum p0 a' < p3) <;> exact ⟨_, rfl⟩
      have d3' : (decide (csum p0 a' < p3) && (w == 0)) = false := by rw [hw] at d3; exact d3
      refine bnd hw ?_
      simp only [d3', Bool.false_eq_true, if_false]
      cases hp2 : planB p0 p1 p2 with
      | false => rfl
      | true =>
        obtain ⟨zl, hwl, hel⟩ := planB_iff.1 hp2
        have k1 := cB_le (ha.le hp2)
        have k2 := cF_le (hb.le hp2)
        have d4 : decide (csum p0 a' ≤ csum p0 p2) = true := by rw [decide_eq_true_eq]; omega
        have d5 : decide ((b.length : Int) ≤ (p2.length : Int)) = true := by rw [decide_eq_true_eq]; omega
        simp only [if_true, bne_self_eq_false, Bool.false_eq_true, if_false, cost_way h hwl, Option.bind_some, d4, d5]
        rfl
    · have ea : a' = [] := by
        by_cases q : a' = []
        · exact q
        · exact absurd (pa1.1 q) hp
      have eb : b = [] := by
        by_cases q : b = []
        · exact q
        · exact absurd (pb1.1 q) hp
      have e4 : ¬ planB p0 p1 p2 = true := fun q => hp ⟨_, q⟩
      subst ea; subst eb
      simp [e4]
end Go.Proofs.YthogdhepjcomjaaGreatDoor
