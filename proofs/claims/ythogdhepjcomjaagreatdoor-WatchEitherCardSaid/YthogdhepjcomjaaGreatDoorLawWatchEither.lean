/-
  What is proved: for all rosters, gates and lists the model of WatchEither returns true.
-/
import Derived.Test.YthogdhepjcomjaaGreatDoorWatQ
import Derived.Test.YthogdhepjcomjaaGreatDoorModelJ
namespace Go.Proofs.YthogdhepjcomjaaGreatDoor
open Go Go.Proofs.YthogdhepjcomjaaGreatDoor.Wh

theorem law_WatchEither (p0 : S_api_Roster) (p1 : Int) (p2 p3 : List Int) : ∃ fuel, M.f5 fuel p0 p1 p2 p3 = some true := by
  refine ⟨wayB p0.2.2.2.2.length + 1000, ?_⟩
  unfold M.f5
  rw [sane_at (by omega), f33_eq (by omega)]
  simp only [Option.bind_eq_bind, Option.bind_some, Bool.not_true, Bool.false_eq_true, if_false, f17_eq (show [p2, p3].length ≤ 4294967296 by simp)]
  cases hv : vldB p0 with
  | false => rfl
  | true =>
    have h : Vd p0 := ⟨hv⟩
    simp only [Bool.not_true, Bool.not_false, guardO_t, Option.bind_some, Bool.false_or]
    split
    · rfl
    rename_i hc
    simp only [Bool.or_eq_true, Bool.not_eq_true', decide_eq_true_eq] at hc
    have hfew : fewB p0 [p2, p3] = true := by
      cases q : fewB p0 [p2, p3] with
      | true => rfl
      | false => exact absurd (.inl (.inl q)) hc
    have hl : p2.length ≤ 100 ∧ p3.length ≤ 100 := by
      unfold fewB at hfew
      simp only [List.all_cons, List.all_nil, Bool.and_true, Bool.and_eq_true, decide_eq_true_eq] at hfew
      omega
    have hg0 : 0 ≤ p1 := by omega
    have hg1 : p1 < p0.1 := by omega
    obtain ⟨l, e1, hb⟩ := f34_so h (fuel := wayB p0.2.2.2.2.length + 1000) hg0 hg1 (by omega)
    have hlen := hb.len h
    have h24 := h.len
    have hlr := rchL_len (r := p0) (g := p1) (w := -1)
    simp only [e1, f20_eq (show 25 < wayB p0.2.2.2.2.length + 1000 by omega), Option.bind_some, f35_eq (show l.length ≤ 100 by omega) (show 100 < wayB p0.2.2.2.2.length + 1000 by omega), f35_eq hl.1 (show 100 < wayB p0.2.2.2.2.length + 1000 by omega), f25_eq hl.2 (show 100 < wayB p0.2.2.2.2.length + 1000 by omega)]
    unfold gapV
    rw [gateE_of h hg0 hg1, if_pos rfl, chkP_zero h hg0 hg1, chkP_zero h hg0 hg1]
    obtain ⟨b1, b2⟩ := hb.plan
    by_cases hp : ∃ l, planB p0 p1 l = true
    · rw [if_pos (rch_late.2 hp)]
      have hne := b1.2 hp
      have e2 : l.isEmpty = false := by rw [List.isEmpty_eq_false_iff]; exact hne
      have e3 := b2 hne
      have e4 : ¬ chkG p0 p1 p3 = 0 := fun hq => gap_rch hq hp
      simp [e2, e3, guardO, e4]
    · have hl0 : (rchL p0 p1 (-1)).any (fun x => decide (enI p0 x ≤ 0)) = false := by
        rw [← Bool.not_eq_true]; exact fun q => hp (rch_late.1 q)
      rw [hl0]
      have e2 : l = [] := by
        by_cases q : l = []
        · exact q
        · exact absurd (b1.1 q) hp
      have e3 : ¬ planB p0 p1 p2 = true := fun q => hp ⟨_, q⟩
      have e4 := rch_gap h hg0 hg1 hl0
      subst e2
      simp [guardO, e3, f25_eq (show (rchL p0 p1 (-1)).length ≤ 100 by omega) (show 100 < wayB p0.2.2.2.2.length + 1000 by omega), e4]
end Go.Proofs.YthogdhepjcomjaaGreatDoor
