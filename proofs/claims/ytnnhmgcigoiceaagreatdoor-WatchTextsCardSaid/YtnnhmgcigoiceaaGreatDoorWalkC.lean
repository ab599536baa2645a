/-
  What is proved: each Go function named here returns what its model tells, and changes nothing that was there; where the model tells something.
-/
import Derived.Test.YtnnhmgcigoiceaaGreatDoorWalkB
import Derived.Test.YtnnhmgcigoiceaaGreatDoorModelC
set_option linter.unusedVariables false
set_option maxRecDepth 100000
namespace Go.Proofs.YtnnhmgcigoiceaaGreatDoor
open Go Go.RowKit Go.Proofs.YtnnhmgcigoiceaaGreatDoor.Wh

theorem f40_ok {p0 : S_api_Roster} {p1 : Int} {r : Int} (h : M.f40 p0 p1 = some r) : CallOK Tryz.prog 40 [isV p0, isV p1] (isV r) := by
  unfold M.f40 at h
  refine callS_of Tryz.func40 rfl Tryz.ntmps40 rfl fun F0 w0 a hS => ?_
  refine ws ?_
  refine st_reg mixed (by kernel_rfl) hS ?_
  refine cg (sp_box (od rfl)) ?_
  refine cg (sp_assign (odi)) ?_
  refine sn fun a w hS => ?_
  refine et ?_
  refine ws ?_
  refine ws ?_
  obtain ⟨v_1, e_2, h⟩ := bind_some h
  refine st_reg mixed (by kernel_rfl) hS ?_
  refine cg (sp_load ty34 (od rfl)) ?_
  refine cg (sp_call en25 (f25_ok e_2) ⟨od rfl, trivial⟩) ?_
  refine cg (sp_assign (od rfl)) ?_
  refine sn fun a w hS => ?_
  refine et ?_
  refine ws ?_
  refine st_reg mixed (by kernel_rfl) hS ?_
  refine mv rfl ?_
  refine cg (sp_neq (od rfl) (odi)) ?_
  refine sn fun a w hS => ?_
  refine et ?_
  refine st_cond hS rfl (fun hb => ?_) (fun hb => ?_)
  · have h := ite_t hb h
    refine ws ?_
    refine st_reg mixed (by kernel_rfl) hS ?_
    refine mv rfl ?_
    refine cg (sp_assign (od rfl)) ?_
    refine sn fun a w hS => ?_
    refine et ?_
    refine wp_ret ?_
    refine exit_thenR ?_
    cases h
    exact st_ret hS (run_results1 Tryz.results40 a w) (hS.get rfl)
  have h := ite_f hb h
  refine wp_skip ?_
  refine et ?_
  refine ws ?_
  refine ws ?_
  obtain ⟨v_3, e_4, h⟩ := bind_some h
  refine st_reg mixed (by kernel_rfl) hS ?_
  refine mv rfl ?_
  refine cg (sp_fieldAddr fd34_0 (od rfl)) ?_
  refine cg (sp_load ty3 (od rfl)) ?_
  refine cg (sp_sub (od rfl) (odi)) ?_
  refine cg (sp_call en54 (f54_ok e_4) ⟨od rfl, odi, od rfl, trivial⟩) ?_
  refine cg (sp_not (od rfl)) ?_
  refine sn fun a w hS => ?_
  refine et ?_
  refine st_cond hS rfl (fun hb => ?_) (fun hb => ?_)
  · have h := ite_t hb h
    refine ws ?_
    refine st_reg mixed (by kernel_rfl) hS ?_
    refine cg (sp_assign (odi)) ?_
    refine sn fun a w hS => ?_
    refine et ?_
    refine wp_ret ?_
    refine exit_thenR ?_
    cases h
    exact st_ret hS (run_results1 Tryz.results40 a w) (hS.get rfl)
  have h := ite_f hb h
  refine wp_skip ?_
  refine et ?_
  refine ws ?_
  refine st_reg mixed (by kernel_rfl) hS ?_
  refine cg (sp_assign (odi)) ?_
  refine sn fun a w hS => ?_
  refine et ?_
  refine wp_ret ?_
  cases h
  exact st_ret hS (run_results1 Tryz.results40 a w) (hS.get rfl)

theorem f45_ok {p0 : S_api_Roster} {p1 : List Int} {r : Int} (h : M.f45 p0 p1 = some r) : CallOK Tryz.prog 45 [isV p0, isV p1] (isV r) := by
  unfold M.f45 at h
  refine callS_of Tryz.func45 rfl Tryz.ntmps45 rfl fun F0 w0 a hS => ?_
  refine ws ?_
  refine st_reg mixed (by kernel_rfl) hS ?_
  refine cg (sp_box (od rfl)) ?_
  refine cg (sp_assign (odi)) ?_
  refine sn fun a w hS => ?_
  refine et ?_
  refine ws ?_
  refine st_reg mixed (by kernel_rfl) hS ?_
  refine cg (sp_assign (odi)) ?_
  refine sn fun a w hS => ?_
  refine et ?_
  refine ws ?_
  refine ws ?_
  refine st_reg mixed (by kernel_rfl) hS ?_
  refine mv rfl ?_
  refine cg (sp_len Tryz.underlying39 (od rfl)) ?_
  refine cg (sp_move (odi)) ?_
  refine sn fun a w hS => ?_
  refine et ?_
  refine wp_block ?_
  obtain ⟨o_4, e_5, hr_6⟩ := bind_some h
  refine c_loop (fun K a w => ∃ k i_1 s_3, K = k + 1 ∧ ForT _ _ _ o_4 k i_1 s_3 ∧ St 24 F0 [] [(2, isA (α := S_api_Roster) p0), (5, isV (α := Int) s_3), (8, isV (α := List Int) p1), (9, isV (α := Int) (p1.length : Int)), (10, isV (α := Int) i_1)] w0 a w) ?_ ?_ ⟨_, _, _, rfl, fors_init e_5, hS.weak ⟨od rfl, od rfl, od rfl, od rfl, od rfl, trivial⟩⟩
  · rintro a w ⟨_, _, _, hk, _⟩; cases hk
  rintro K a w ⟨k_4, i_1, s_3, hk, hF_4, hS⟩
  obtain rfl := Nat.succ.inj hk
  refine ws ?_
  refine st_reg mixed (by kernel_rfl) hS ?_
  refine cg (sp_lss (od rfl) (od rfl)) ?_
  refine sn fun a w hS => ?_
  refine et ?_
  refine ws ?_
  refine st_cond hS rfl (fun hb => ?_) (fun hb => ?_)
  · refine wp_skip ?_
    refine et ?_
    obtain ⟨k_4, s', rfl, h, hF_4, hw_4⟩ := fors_more hF_4 hb
    refine ws ?_
    refine wp_block ?_
    refine ws ?_
    obtain ⟨v_7, e_8, h⟩ := bind_some h
    refine st_reg mixed (by kernel_rfl) hS ?_
    refine cg (sp_indexAddr sl39 (od rfl) (od rfl) e_8) ?_
    refine cg (sp_load ty3 (od rfl)) ?_
    refine cg (sp_assign (od rfl)) ?_
    refine sn fun a w hS => ?_
    refine et ?_
    obtain ⟨v_9, e_10, h⟩ := bind_some h
    refine st_reg mixed (by kernel_rfl) hS ?_
    refine mv rfl ?_
    refine cg (sp_fieldAddr fd34_4 (od rfl)) ?_
    refine cg (sp_load ty32 (od rfl)) ?_
    refine mv rfl ?_
    refine cg (sp_indexAddr sl32 (od rfl) (od rfl) e_10) ?_
    refine cg (sp_fieldAddr fd23_5 (od rfl)) ?_
    refine cg (sp_load ty3 (od rfl)) ?_
    refine cg (sp_add (od rfl) (od rfl)) ?_
    refine cg (sp_assign (od rfl)) ?_
    refine sn fun a w hS => ?_
    refine exit_block ?_
    refine et ?_
    refine st_reg mixed (by kernel_rfl) hS ?_
    refine cg (sp_add (od rfl) (odi)) ?_
    refine mv rfl ?_
    refine sn fun a w hS => ?_
    cases h
    exact ⟨k_4, _, _, rfl, hF_4, hS.weak ⟨od rfl, od rfl, od rfl, od rfl, od (congrArg (fun z => some (isV (α := Int) z)) hw_4), trivial⟩⟩
  refine wp_exit ?_
  obtain rfl := (fors_done hF_4 hb).symm
  have h := hr_6
  refine exit_thenE ?_
  refine exit_thenE ?_
  refine exit_here ?_
  refine et ?_
  refine ws ?_
  refine st_reg mixed (by kernel_rfl) hS ?_
  refine mv rfl ?_
  refine cg (sp_assign (od rfl)) ?_
  refine sn fun a w hS => ?_
  refine et ?_
  refine wp_ret ?_
  cases h
  exact st_ret hS (run_results1 Tryz.results45 a w) (hS.get rfl)

theorem f111_ok {p0 : Int} {r : Bool} (h : M.f111 p0 = some r) : CallOK Tryz.prog 111 [isV p0] (isV r) := by
  unfold M.f111 at h
  refine callS_of Tryz.func111 rfl Tryz.ntmps111 rfl fun F0 w0 a hS => ?_
  refine ws ?_
  refine st_reg mixed (by kernel_rfl) hS ?_
  refine cg (sp_assign (odb)) ?_
  refine sn fun a w hS => ?_
  refine et ?_
  refine ws ?_
  refine st_reg mixed (by kernel_rfl) hS ?_
  refine mv rfl ?_
  refine mv rfl ?_
  refine cg (sp_neq (od rfl) (od rfl)) ?_
  refine cg (sp_assign (od rfl)) ?_
  refine sn fun a w hS => ?_
  refine et ?_
  refine wp_ret ?_
  cases h
  exact st_ret hS (run_results1 Tryz.results111 a w) (hS.get rfl)

theorem f83_ok {p0 : Int} {p1 : Int} {r : Int} (h : M.f83 p0 p1 = some r) : CallOK Tryz.prog 83 [isV p0, isV p1] (isV r) := by
  unfold M.f83 at h
  refine callS_of Tryz.func83 rfl Tryz.ntmps83 rfl fun F0 w0 a hS => ?_
  refine ws ?_
  refine st_reg mixed (by kernel_rfl) hS ?_
  refine cg (sp_assign (odi)) ?_
  refine sn fun a w hS => ?_
  refine et ?_
  refine ws ?_
  obtain ⟨v_1, e_2, h⟩ := bind_some h
  refine st_reg mixed (by kernel_rfl) hS ?_
  refine mv rfl ?_
  refine cg (sp_call en111 (f111_ok e_2) ⟨od rfl, trivial⟩) ?_
  refine cg (sp_assign (od rfl)) ?_
  refine sn fun a w hS => ?_
  refine et ?_
  refine ws ?_
  obtain ⟨v_3, e_4, h⟩ := bind_some h
  refine st_reg mixed (by kernel_rfl) hS ?_
  refine mv rfl ?_
  refine cg (sp_call en111 (f111_ok e_4) ⟨od rfl, trivial⟩) ?_
  refine cg (sp_assign (od rfl)) ?_
  refine sn fun a w hS => ?_
  refine et ?_
  refine ws ?_
  refine ws ?_
  refine st_reg mixed (by kernel_rfl) hS ?_
  refine mv rfl ?_
  refine sn fun a w hS => ?_
  refine et ?_
  refine st_cond hS rfl (fun hb => ?_) (fun hb => ?_)
  · have h := ite_t hb h
    refine ws ?_
    refine ws ?_
    refine st_reg mixed (by kernel_rfl) hS ?_
    refine mv rfl ?_
    refine sn fun a w hS => ?_
    refine et ?_
    refine st_cond hS rfl (fun hb => ?_) (fun hb => ?_)
    · have h := ite_t hb h
      refine ws ?_
      refine st_reg mixed (by kernel_rfl) hS ?_
      refine cg (sp_assign (odi)) ?_
      refine sn fun a w hS => ?_
      refine et ?_
      refine wp_ret ?_
      refine exit_thenR ?_
      refine exit_thenR ?_
      cases h
      exact st_ret hS (run_results1 Tryz.results83 a w) (hS.get rfl)
    have h := ite_f hb h
    refine wp_skip ?_
    refine et ?_
    refine ws ?_
    refine st_reg mixed (by kernel_rfl) hS ?_
    refine cg (sp_assign (odi)) ?_
    refine sn fun a w hS => ?_
    refine et ?_
    refine wp_ret ?_
    refine exit_thenR ?_
    cases h
    exact st_ret hS (run_results1 Tryz.results83 a w) (hS.get rfl)
  have h := ite_f hb h
  refine wp_skip ?_
  refine et ?_
  refine ws ?_
  refine ws ?_
  refine st_reg mixed (by kernel_rfl) hS ?_
  refine mv rfl ?_
  refine sn fun a w hS => ?_
  refine et ?_
  refine st_cond hS rfl (fun hb => ?_) (fun hb => ?_)
  · have h := ite_t hb h
    refine ws ?_
    refine st_reg mixed (by kernel_rfl) hS ?_
    refine cg (sp_assign (odi)) ?_
    refine sn fun a w hS => ?_
    refine et ?_
    refine wp_ret ?_
    refine exit_thenR ?_
    cases h
    exact st_ret hS (run_results1 Tryz.results83 a w) (hS.get rfl)
  have h := ite_f hb h
  refine wp_skip ?_
  refine et ?_
  refine ws ?_
  refine ws ?_
  refine st_reg mixed (by kernel_rfl) hS ?_
  refine mv rfl ?_
  refine mv rfl ?_
  refine cg (sp_lss (od rfl) (od rfl)) ?_
  refine sn fun a w hS => ?_
  refine et ?_
  refine st_cond hS rfl (fun hb => ?_) (fun hb => ?_)
  · have h := ite_t hb h
    refine ws ?_
    refine st_reg mixed (by kernel_rfl) hS ?_
    refine cg (sp_assign (odi)) ?_
    refine sn fun a w hS => ?_
    refine et ?_
    refine wp_ret ?_
    refine exit_thenR ?_
    cases h
    exact st_ret hS (run_results1 Tryz.results83 a w) (hS.get rfl)
  have h := ite_f hb h
  refine wp_skip ?_
  refine et ?_
  refine ws ?_
  refine ws ?_
  refine st_reg mixed (by kernel_rfl) hS ?_
  refine mv rfl ?_
  refine mv rfl ?_
  refine cg (sp_gtr (od rfl) (od rfl)) ?_
  refine sn fun a w hS => ?_
  refine et ?_
  refine st_cond hS rfl (fun hb => ?_) (fun hb => ?_)
  · have h := ite_t hb h
    refine ws ?_
    refine st_reg mixed (by kernel_rfl) hS ?_
    refine cg (sp_assign (odi)) ?_
    refine sn fun a w hS => ?_
    refine et ?_
    refine wp_ret ?_
    refine exit_thenR ?_
    cases h
    exact st_ret hS (run_results1 Tryz.results83 a w) (hS.get rfl)
  have h := ite_f hb h
  refine wp_skip ?_
  refine et ?_
  refine ws ?_
  refine st_reg mixed (by kernel_rfl) hS ?_
  refine cg (sp_assign (odi)) ?_
  refine sn fun a w hS => ?_
  refine et ?_
  refine wp_ret ?_
  cases h
  exact st_ret hS (run_results1 Tryz.results83 a w) (hS.get rfl)

theorem f84_ok {p0 : List Int} {p1 : List Int} {r : Int} (h : M.f84 p0 p1 = some r) : CallOK Tryz.prog 84 [isV p0, isV p1] (isV r) := by
  unfold M.f84 at h
  refine callS_of Tryz.func84 rfl Tryz.ntmps84 rfl fun F0 w0 a hS => ?_
  refine ws ?_
  refine st_reg mixed (by kernel_rfl) hS ?_
  refine cg (sp_assign (odi)) ?_
  refine sn fun a w hS => ?_
  refine et ?_
  refine ws ?_
  refine ws ?_
  refine st_reg mixed (by kernel_rfl) hS ?_
  refine mv rfl ?_
  refine cg (sp_len Tryz.underlying39 (od rfl)) ?_
  refine cg (sp_move (odi)) ?_
  refine sn fun a w hS => ?_
  refine et ?_
  refine wp_block ?_
  obtain ⟨o_4, e_5, hr_6⟩ := bind_some h
  refine c_loop (fun K a w => ∃ k i_1 s_3, K = k + 1 ∧ ForI _ _ _ o_4 k i_1 s_3 ∧ St 36 F0 [] [(0, isV (α := List Int) p0), (1, isV (α := List Int) p1), (9, isV (α := List Int) p0), (10, isV (α := Int) (p0.length : Int)), (11, isV (α := Int) i_1)] w0 a w) ?_ ?_ ⟨_, _, _, rfl, for_init e_5, hS.weak ⟨od rfl, od rfl, od rfl, od rfl, od rfl, trivial⟩⟩
  · rintro a w ⟨_, _, _, hk, _⟩; cases hk
  rintro K a w ⟨k_4, i_1, s_3, hk, hF_4, hS⟩
  obtain rfl := Nat.succ.inj hk
  refine ws ?_
  refine st_reg mixed (by kernel_rfl) hS ?_
  refine cg (sp_lss (od rfl) (od rfl)) ?_
  refine sn fun a w hS => ?_
  refine et ?_
  refine ws ?_
  refine st_cond hS rfl (fun hb => ?_) (fun hb => ?_)
  · refine wp_skip ?_
    refine et ?_
    obtain ⟨k_4, o, rfl, h, hN_4, hL_4, hw_4⟩ := for_more hF_4 hb
    refine ws ?_
    refine wp_block ?_
    refine ws ?_
    obtain ⟨v_7, e_8, h⟩ := bind_some h
    refine st_reg mixed (by kernel_rfl) hS ?_
    refine mv rfl ?_
    refine cg (sp_indexAddr sl39 (od rfl) (od rfl) e_8) ?_
    refine cg (sp_load ty3 (od rfl)) ?_
    refine cg (sp_assign (od rfl)) ?_
    refine cg (sp_assign (od rfl)) ?_
    refine sn fun a w hS => ?_
    refine et ?_
    refine ws ?_
    refine ws ?_
    refine st_reg mixed (by kernel_rfl) hS ?_
    refine mv rfl ?_
    refine mv rfl ?_
    refine cg (sp_len Tryz.underlying39 (od rfl)) ?_
    refine cg (sp_geq (od rfl) (od rfl)) ?_
    refine sn fun a w hS => ?_
    refine et ?_
    refine st_cond hS rfl (fun hb => ?_) (fun hb => ?_)
    · have h := ite_t hb h
      refine ws ?_
      refine st_reg mixed (by kernel_rfl) hS ?_
      refine cg (sp_assign (odi)) ?_
      refine sn fun a w hS => ?_
      refine et ?_
      refine wp_ret ?_
      refine exit_thenR ?_
      refine exit_blockR ?_
      refine exit_thenR ?_
      cases h
      obtain rfl := hL_4 _ rfl
      have h := (elim_leave hr_6)
      refine exit_thenR ?_
      refine exit_blockR ?_
      refine exit_thenR ?_
      cases h
      exact st_ret hS (run_results1 Tryz.results84 a w) (hS.get rfl)
    have h := ite_f hb h
    refine wp_skip ?_
    refine et ?_
    refine ws ?_
    obtain ⟨v_9, e_10, h⟩ := bind_some h
    refine st_reg mixed (by kernel_rfl) hS ?_
    refine mv rfl ?_
    refine mv rfl ?_
    refine cg (sp_indexAddr sl39 (od rfl) (od rfl) e_10) ?_
    refine cg (sp_load ty3 (od rfl)) ?_
    refine cg (sp_assign (od rfl)) ?_
    refine sn fun a w hS => ?_
    refine et ?_
    refine ws ?_
    obtain ⟨v_11, e_12, h⟩ := bind_some h
    refine st_reg mixed (by kernel_rfl) hS ?_
    refine mv rfl ?_
    refine mv rfl ?_
    refine cg (sp_call en83 (f83_ok e_12) ⟨od rfl, od rfl, trivial⟩) ?_
    refine cg (sp_assign (od rfl)) ?_
    refine sn fun a w hS => ?_
    refine et ?_
    refine ws ?_
    refine st_reg mixed (by kernel_rfl) hS ?_
    refine mv rfl ?_
    refine cg (sp_neq (od rfl) (odi)) ?_
    refine sn fun a w hS => ?_
    refine et ?_
    refine st_cond hS rfl (fun hb => ?_) (fun hb => ?_)
    · have h := ite_t hb h
      refine ws ?_
      refine st_reg mixed (by kernel_rfl) hS ?_
      refine mv rfl ?_
      refine cg (sp_assign (od rfl)) ?_
      refine sn fun a w hS => ?_
      refine et ?_
      refine wp_ret ?_
      refine exit_blockR ?_
      refine exit_thenR ?_
      cases h
      obtain rfl := hL_4 _ rfl
      have h := (elim_leave hr_6)
      refine exit_thenR ?_
      refine exit_blockR ?_
      refine exit_thenR ?_
      cases h
      exact st_ret hS (run_results1 Tryz.results84 a w) (hS.get rfl)
    have h := ite_f hb h
    refine wp_skip ?_
    refine exit_block ?_
    refine et ?_
    refine st_reg mixed (by kernel_rfl) hS ?_
    refine cg (sp_add (od rfl) (odi)) ?_
    refine mv rfl ?_
    refine sn fun a w hS => ?_
    cases h
    exact ⟨k_4, _, _, rfl, hN_4 _ rfl, hS.weak ⟨od rfl, od rfl, od rfl, od rfl, od (congrArg (fun z => some (isV (α := Int) z)) hw_4), trivial⟩⟩
  refine wp_exit ?_
  obtain rfl := for_done hF_4 hb
  have h := elim_again hr_6
  refine exit_thenE ?_
  refine exit_thenE ?_
  refine exit_here ?_
  refine et ?_
  refine ws ?_
  refine ws ?_
  refine st_reg mixed (by kernel_rfl) hS ?_
  refine mv rfl ?_
  refine cg (sp_len Tryz.underlying39 (od rfl)) ?_
  refine mv rfl ?_
  refine cg (sp_len Tryz.underlying39 (od rfl)) ?_
  refine cg (sp_lss (od rfl) (od rfl)) ?_
  refine sn fun a w hS => ?_
  refine et ?_
  refine st_cond hS rfl (fun hb => ?_) (fun hb => ?_)
  · have h := ite_t hb h
    refine ws ?_
    refine st_reg mixed (by kernel_rfl) hS ?_
    refine cg (sp_assign (odi)) ?_
    refine sn fun a w hS => ?_
    refine et ?_
    refine wp_ret ?_
    refine exit_thenR ?_
    cases h
    exact st_ret hS (run_results1 Tryz.results84 a w) (hS.get rfl)
  have h := ite_f hb h
  refine wp_skip ?_
  refine et ?_
  refine ws ?_
  refine st_reg mixed (by kernel_rfl) hS ?_
  refine cg (sp_assign (odi)) ?_
  refine sn fun a w hS => ?_
  refine et ?_
  refine wp_ret ?_
  cases h
  exact st_ret hS (run_results1 Tryz.results84 a w) (hS.get rfl)

theorem f82_ok {p0 : List Int} {r : Int} (h : M.f82 p0 = some r) : CallOK Tryz.prog 82 [isV p0] (isV r) := by
  unfold M.f82 at h
  refine callS_of Tryz.func82 rfl Tryz.ntmps82 rfl fun F0 w0 a hS => ?_
  refine ws ?_
  refine st_reg mixed (by kernel_rfl) hS ?_
  refine cg (sp_assign (odi)) ?_
  refine sn fun a w hS => ?_
  refine et ?_
  refine ws ?_
  refine st_reg mixed (by kernel_rfl) hS ?_
  refine cg (sp_assign (odi)) ?_
  refine sn fun a w hS => ?_
  refine et ?_
  refine ws ?_
  refine ws ?_
  refine st_reg mixed (by kernel_rfl) hS ?_
  refine mv rfl ?_
  refine cg (sp_len Tryz.underlying39 (od rfl)) ?_
  refine cg (sp_move (odi)) ?_
  refine sn fun a w hS => ?_
  refine et ?_
  refine wp_block ?_
  obtain ⟨o_4, e_5, hr_6⟩ := bind_some h
  refine c_loop (fun K a w => ∃ k i_1 s_3, K = k + 1 ∧ ForI _ _ _ o_4 k i_1 s_3 ∧ St 18 F0 [] [(3, isV (α := Int) 0), (6, isV (α := List Int) p0), (7, isV (α := Int) (p0.length : Int)), (8, isV (α := Int) i_1)] w0 a w) ?_ ?_ ⟨_, _, _, rfl, for_init e_5, hS.weak ⟨od rfl, od rfl, od rfl, od rfl, trivial⟩⟩
  · rintro a w ⟨_, _, _, hk, _⟩; cases hk
  rintro K a w ⟨k_4, i_1, s_3, hk, hF_4, hS⟩
  obtain rfl := Nat.succ.inj hk
  refine ws ?_
  refine st_reg mixed (by kernel_rfl) hS ?_
  refine cg (sp_lss (od rfl) (od rfl)) ?_
  refine sn fun a w hS => ?_
  refine et ?_
  refine ws ?_
  refine st_cond hS rfl (fun hb => ?_) (fun hb => ?_)
  · refine wp_skip ?_
    refine et ?_
    obtain ⟨k_4, o, rfl, h, hN_4, hL_4, hw_4⟩ := for_more hF_4 hb
    refine ws ?_
    refine wp_block ?_
    refine ws ?_
    obtain ⟨v_7, e_8, h⟩ := bind_some h
    refine st_reg mixed (by kernel_rfl) hS ?_
    refine cg (sp_indexAddr sl39 (od rfl) (od rfl) e_8) ?_
    refine cg (sp_load ty3 (od rfl)) ?_
    refine cg (sp_assign (od rfl)) ?_
    refine sn fun a w hS => ?_
    refine et ?_
    refine ws ?_
    refine st_reg mixed (by kernel_rfl) hS ?_
    refine mv rfl ?_
    refine mv rfl ?_
    refine cg (sp_neq (od rfl) (od rfl)) ?_
    refine sn fun a w hS => ?_
    refine et ?_
    refine st_cond hS rfl (fun hb => ?_) (fun hb => ?_)
    · have h := ite_t hb h
      refine ws ?_
      refine st_reg mixed (by kernel_rfl) hS ?_
      refine mv rfl ?_
      refine cg (sp_assign (od rfl)) ?_
      refine sn fun a w hS => ?_
      refine et ?_
      refine wp_ret ?_
      refine exit_blockR ?_
      refine exit_thenR ?_
      cases h
      obtain rfl := hL_4 _ rfl
      have h := (elim_leave hr_6)
      refine exit_thenR ?_
      refine exit_blockR ?_
      refine exit_thenR ?_
      cases h
      exact st_ret hS (run_results1 Tryz.results82 a w) (hS.get rfl)
    have h := ite_f hb h
    refine wp_skip ?_
    refine exit_block ?_
    refine et ?_
    refine st_reg mixed (by kernel_rfl) hS ?_
    refine cg (sp_add (od rfl) (odi)) ?_
    refine mv rfl ?_
    refine sn fun a w hS => ?_
    cases h
    exact ⟨k_4, _, _, rfl, hN_4 _ rfl, hS.weak ⟨od rfl, od rfl, od rfl, od (congrArg (fun z => some (isV (α := Int) z)) hw_4), trivial⟩⟩
  refine wp_exit ?_
  obtain rfl := for_done hF_4 hb
  have h := elim_again hr_6
  refine exit_thenE ?_
  refine exit_thenE ?_
  refine exit_here ?_
  refine et ?_
  refine ws ?_
  refine st_reg mixed (by kernel_rfl) hS ?_
  refine mv rfl ?_
  refine cg (sp_assign (od rfl)) ?_
  refine sn fun a w hS => ?_
  refine et ?_
  refine wp_ret ?_
  cases h
  exact st_ret hS (run_results1 Tryz.results82 a w) (hS.get rfl)

theorem f81_ok {p0 : List Int} {p1 : List Int} {c0 : S_api_Roster} {r : Int} (h : M.f81 p0 p1 c0 = some r) : CallOK Tryz.prog 81 [isV p0, isV p1, isA c0] (isV r) := by
  unfold M.f81 at h
  refine callS_of Tryz.func81 rfl Tryz.ntmps81 rfl fun F0 w0 a hS => ?_
  refine ws ?_
  refine st_reg mixed (by kernel_rfl) hS ?_
  refine cg (sp_assign (odi)) ?_
  refine sn fun a w hS => ?_
  refine et ?_
  refine ws ?_
  obtain ⟨v_1, e_2, h⟩ := bind_some h
  obtain ⟨v_3, e_4, h⟩ := bind_some h
  obtain ⟨v_5, e_6, h⟩ := bind_some h
  obtain ⟨v_7, e_8, h⟩ := bind_some h
  obtain ⟨v_9, e_10, h⟩ := bind_some h
  obtain ⟨v_11, e_12, h⟩ := bind_some h
  refine st_reg mixed (by kernel_rfl) hS ?_
  refine cg (sp_load ty34 (od rfl)) ?_
  refine mv rfl ?_
  refine cg (sp_call en45 (f45_ok e_2) ⟨od rfl, od rfl, trivial⟩) ?_
  refine cg (sp_load ty34 (od rfl)) ?_
  refine mv rfl ?_
  refine cg (sp_call en45 (f45_ok e_4) ⟨od rfl, od rfl, trivial⟩) ?_
  refine cg (sp_call en83 (f83_ok e_6) ⟨od rfl, od rfl, trivial⟩) ?_
  refine mv rfl ?_
  refine cg (sp_len Tryz.underlying39 (od rfl)) ?_
  refine mv rfl ?_
  refine cg (sp_len Tryz.underlying39 (od rfl)) ?_
  refine cg (sp_call en83 (f83_ok e_8) ⟨od rfl, od rfl, trivial⟩) ?_
  refine mv rfl ?_
  refine mv rfl ?_
  refine cg (sp_call en84 (f84_ok e_10) ⟨od rfl, od rfl, trivial⟩) ?_
  refine cg (sp_buildSlice [.tmp 12, .tmp 17, .tmp 20] ([v_5, v_7, v_9] : List Int) sl39 ze3 rfl rfl rfl rfl ⟨od rfl, od rfl, od rfl, trivial⟩) ?_
  refine cg (sp_call en82 (f82_ok e_12) ⟨od rfl, trivial⟩) ?_
  refine cg (sp_assign (od rfl)) ?_
  refine sn fun a w hS => ?_
  refine et ?_
  refine wp_ret ?_
  cases h
  exact st_ret hS (run_results1 Tryz.results81 a w) (hS.get rfl)

theorem f42_ok {p0 : S_api_Roster} {r : ((List Int) → (List Int) → Option Int)} (h : M.f42 p0 = some r) : CallOK Tryz.prog 42 [isV p0] (isV r) := by
  unfold M.f42 at h
  refine callS_of Tryz.func42 rfl Tryz.ntmps42 rfl fun F0 w0 a hS => ?_
  refine ws ?_
  refine st_reg mixed (by kernel_rfl) hS ?_
  refine cg (sp_box (od rfl)) ?_
  refine cg (sp_assign (φ := isV ((fun _ _ => none) : ((List Int) → (List Int) → Option Int))) (odc fun _ => (.inl ⟨rfl, fun _ => rfl⟩))) ?_
  refine sn fun a w hS => ?_
  refine et ?_
  refine ws ?_
  refine st_reg mixed (by kernel_rfl) hS ?_
  refine cg (mk_fn74 (f := (fun x0 x1 => M.f81 x0 x1 p0)) (κs := [isA (α := S_api_Roster) p0]) ⟨fun _ _ _ _ h => h, trivial⟩ en81 ⟨od rfl, trivial⟩ (fun _ _ h => f81_ok h)) ?_
  refine cg (sp_assign (od rfl)) ?_
  refine sn fun a w hS => ?_
  refine et ?_
  refine wp_ret ?_
  cases h
  exact st_ret hS (run_results1 Tryz.results42 a w) (hS.get rfl)

theorem f86_ok {p0 : Int} {p1 : List Int} {c0 : List (NL Int)} {c1 : ((List Int) → (List Int) → Option Int)} {b0 : Nat} {v0 : Value} {r : Bool × (List (NL Int))} (h : M.f86 p0 p1 c0 c1 = some r) : CallF Tryz.prog 86 [Item.box (α := Raw) 31 b0 (Raw.mk v0), Item.sl (α := NL Int) 39 v0 c0] [isV p0, isV p1, Pr.ptr b0, isA (α := ((List Int) → (List Int) → Option Int)) c1] ⟨Value, fun x_ => [Item.box (α := Raw) 31 b0 (Raw.mk x_), Item.sl (α := NL Int) 39 x_ r.2], fun _ => isV (α := Bool) r.1⟩ := by
  unfold M.f86 at h
  refine callF_of Tryz.func86 rfl Tryz.ntmps86 rfl fun F0 fr w0 w c0_ a hS => ?_
  refine ws ?_
  refine st_reg mixed (by kernel_rfl) hS ?_
  refine cg (sp_assign (odb)) ?_
  refine sn fun a w hS => ?_
  refine et ?_
  refine ws ?_
  refine ws ?_
  have hS := st_boxR 0 1 2 hS rfl rfl rfl
  obtain ⟨v_1, e_2, h⟩ := bind_some h
  obtain ⟨v_3, e_4, h⟩ := bind_some h
  obtain ⟨v_5, e_6, h⟩ := bind_some h
  refine st_reg mixed (by kernel_rfl) hS ?_
  refine cg (sp_loadBoxR tyR31_w (od rfl)) ?_
  refine mv rfl ?_
  refine cg (sp_indexAddrOS sl100031 (od rfl) (od rfl) e_2) ?_
  refine cg (sp_loadEA ty100039 (od rfl)) ?_
  refine cg (sp_neqNL Tryz.underlying39 (od rfl)) ?_
  refine mv rfl ?_
  refine sc (sgT rfl fun hG => sp_load ty74 (od rfl)) ?_
  refine sc (sgT rfl fun hG => sp_loadBoxR tyR31_w (od rfl)) ?_
  refine sc (sgT rfl fun hG => sp_move (od rfl)) ?_
  refine sc (sgT rfl fun hG => sp_indexAddrOS sl100031 (odw rfl hG) (odw rfl hG) (guard_some e_4 hG)) ?_
  refine sc (sgT rfl fun hG => sp_loadEA ty100039 (odw rfl hG)) ?_
  refine sc (sgT rfl fun hG => sp_move (od rfl)) ?_
  refine sc (sgT rfl fun hG => sp_callV (x := (v_3.l, p1)) (y := v_5) (od_fn74 (odw rfl hG)) ⟨odNLw rfl hG, odw rfl hG, trivial⟩ (guard_some e_6 hG)) ?_
  refine sc (sgT rfl fun hG => sp_leq (odw rfl hG) (odi)) ?_
  refine cg (sp_pickAnd (od rfl) fun hg => odw rfl hg) ?_
  refine sn fun a w hS => ?_
  refine et ?_
  refine st_cond hS rfl (fun hb => ?_) (fun hb => ?_)
  · have h := ite_t hb h
    refine ws ?_
    refine st_reg mixed (by kernel_rfl) hS ?_
    refine cg (sp_assign (odb)) ?_
    refine sn fun a w hS => ?_
    refine et ?_
    refine wp_ret ?_
    refine exit_thenR ?_
    have hS := hS.weak (Δ := [(0, isV (α := Int) p0), (1, isV (α := List Int) p1), (2, Pr.ptr b0), (3, isA (α := ((List Int) → (List Int) → Option Int)) c1), (6, isV (α := Bool) false), (7, Pr.is v0), (8, isV (α := Int) p0), (9, isEP (NL Int) v0 p0.toNat), (10, isV (α := NL Int) v_1), (11, isV (α := Bool) (!v_1.l.isEmpty)), (12, isV (α := Bool) (!v_1.l.isEmpty)), (21, isV (α := Bool) ((!v_1.l.isEmpty) && (decide (v_5 ≤ 0)))), (1000000, Pr.seen c0_)]) ⟨od rfl, od rfl, odBxR rfl, od rfl, od rfl, odOS rfl, od rfl, odEP rfl, od rfl, od rfl, od rfl, od rfl, od rfl, trivial⟩
    have hS := st_front 1 hS rfl
    have hS := st_front 1 hS rfl
    have hS : St _ F0 (Item.box (α := Raw) 31 b0 (Raw.mk v0) :: Item.sl (α := NL Int) 39 v0 c0 :: fr) _ w0 _ _ := hS
    cases h
    exact st_retF (ρ := ⟨Value, fun x_ => [Item.box (α := Raw) 31 b0 (Raw.mk x_), Item.sl (α := NL Int) 39 x_ ((false, c0).2)], fun _ => isV (α := Bool) ((false, c0).1)⟩) v0 hS (run_results1 Tryz.results86 a w) rfl (hS.at_.sat 6 _ rfl)
  have h := ite_f hb h
  refine wp_skip ?_
  refine et ?_
  refine ws ?_
  obtain ⟨v_7, e_8, h⟩ := bind_some h
  obtain ⟨m_11, e_12, h⟩ := bind_some h
  obtain ⟨z_9, e_10, h⟩ := bind_some h
  refine l_start ?_
  refine s_c hS (sg (sp_loadBoxR tyR31_w (od rfl))) rfl fun a w hS hM => ?_
  refine s_c hS (sg (sp_move (od rfl))) rfl fun a w hS hM => ?_
  refine s_c hS (sg (sp_move (od rfl))) rfl fun a w hS hM => ?_
  refine s_c hS (sg (sp_indexAddrOS sl100031 (od rfl) (od rfl) e_8)) rfl fun a w hS hM => ?_
  refine s_storeEA (k := 1) (j := p0) (Δ := [(2, Pr.ptr b0), (24, isV (α := List Int) p1), (25, isEP (NL Int) v0 p0.toNat), (1000000, Pr.seen c0_)]) ty100039 hS rfl ⟨odBxR rfl, od rfl, odEP rfl, od rfl, trivial⟩ ⟨fun _ _ _ _ h => h, fun _ _ _ _ h => h, fun _ _ _ _ h => h, fun _ _ _ _ h => h, trivial⟩ (odEP rfl) (odMkNL (od rfl) e_12) e_10 fun w hS hM => ?_
  have hS : St _ F0 (Item.box (α := Raw) 31 b0 (Raw.mk v0) :: Item.sl (α := NL Int) 39 v0 z_9 :: fr) _ w0 _ _ := hS
  refine l_end ?_
  refine et ?_
  refine ws ?_
  refine st_reg mixed (by kernel_rfl) hS ?_
  refine cg (sp_assign (odb)) ?_
  refine sn fun a w hS => ?_
  refine et ?_
  refine wp_ret ?_
  have hS := st_front 1 hS rfl
  have hS := st_front 1 hS rfl
  have hS : St _ F0 (Item.box (α := Raw) 31 b0 (Raw.mk v0) :: Item.sl (α := NL Int) 39 v0 z_9 :: fr) _ w0 _ _ := hS
  cases h
  exact st_retF (ρ := ⟨Value, fun x_ => [Item.box (α := Raw) 31 b0 (Raw.mk x_), Item.sl (α := NL Int) 39 x_ ((true, z_9).2)], fun _ => isV (α := Bool) ((true, z_9).1)⟩) v0 hS (run_results1 Tryz.results86 a w) rfl (hS.at_.sat 6 _ rfl)

theorem f62_ok {p0 : S_api_Roster} {p1 : Int} {p2 : (Int → Option Bool)} {r : (List Int)} (h : M.f62 p0 p1 p2 = some r) : CallOK Tryz.prog 62 [isV p0, isV p1, isV p2] (isV r) := by
  unfold M.f62 at h
  refine callS_of Tryz.func62 rfl Tryz.ntmps62 rfl fun F0 w0 a hS => ?_
  refine ws ?_
  refine st_reg mixed (by kernel_rfl) hS ?_
  refine cg (sp_box (od rfl)) ?_
  refine cg (sp_assign (odnil (α := Int))) ?_
  refine sn fun a w hS => ?_
  refine et ?_
  refine ws ?_
  refine st_reg mixed (by kernel_rfl) hS ?_
  refine cg (sp_assign (φ := Pr.is (.slice none 0 0)) (odc fun _ => rfl)) ?_
  refine sn fun a w hS => ?_
  have hS := st_nil (α := Int) 3 hS
  have hS : St _ F0 [Item.sl (α := Int) 3 (.slice none 0 0) ([] : List Int)] _ w0 _ _ := hS
  refine et ?_
  refine ws ?_
  refine ws ?_
  refine st_reg mixed (by kernel_rfl) hS ?_
  refine cg (sp_fieldAddr fd34_4 (od rfl)) ?_
  refine cg (sp_load ty32 (od rfl)) ?_
  refine cg (sp_len Tryz.underlying32 (od rfl)) ?_
  refine cg (sp_move (odi)) ?_
  refine sn fun a w hS => ?_
  refine et ?_
  refine wp_block ?_
  obtain ⟨o_4, e_5, hr_6⟩ := bind_some h
  refine c_loop (fun K a w => ∃ k i_1 s_3, ∃ u_7 : Value, K = k + 1 ∧ ForT _ _ _ o_4 k i_1 s_3 ∧ St 33 F0 [Item.sl (α := Int) 3 u_7 s_3] [(1, isV (α := Int) p1), (2, isV (α := (Int → Option Bool)) p2), (7, Pr.is u_7), (11, isV (α := List S_api_Turn) p0.2.2.2.2), (12, isV (α := Int) (p0.2.2.2.2.length : Int)), (13, isV (α := Int) i_1)] w0 a w) ?_ ?_ ⟨_, _, _, (.slice none 0 0), rfl, fors_init e_5, hS.weak ⟨od rfl, od rfl, od rfl, od rfl, od rfl, od rfl, trivial⟩⟩
  · rintro a w ⟨_, _, _, _, hk, _⟩; cases hk
  rintro K a w ⟨k_4, i_1, s_3, u_7, hk, hF_4, hS⟩
  obtain rfl := Nat.succ.inj hk
  refine ws ?_
  refine st_reg mixed (by kernel_rfl) hS ?_
  refine cg (sp_lss (od rfl) (od rfl)) ?_
  refine sn fun a w hS => ?_
  refine et ?_
  refine ws ?_
  refine st_cond hS rfl (fun hb => ?_) (fun hb => ?_)
  · refine wp_skip ?_
    refine et ?_
    obtain ⟨k_4, s', rfl, h, hF_4, hw_4⟩ := fors_more hF_4 hb
    refine ws ?_
    refine wp_block ?_
    refine ws ?_
    obtain ⟨v_8, e_9, h⟩ := bind_some h
    refine l_start ?_
    refine s_c hS (sg (sp_move (od rfl))) rfl fun a w hS hM => ?_
    refine s_c hS (sg (sp_indexAddr sl32 (od rfl) (od rfl) e_9)) rfl fun a w hS hM => ?_
    refine s_c hS (sg (sp_load ty23 (od rfl))) rfl fun a w hS hM => ?_
    refine s_alloc zi23 hS rfl fun a w b_10 hS hM => ?_
    have hS : St _ F0 [Item.sl (α := Int) 3 u_7 s_3, Item.box (α := S_api_Turn) 23 b_10 ((0, 0, 0, 0, 0, 0) : S_api_Turn)] _ w0 _ _ := hS
    refine s_c hS (sg (sp_assign (od rfl))) rfl fun a w hS hM => ?_
    refine s_storeB (k := 1) (Δ := [(1, isV (α := Int) p1), (2, isV (α := (Int → Option Bool)) p2), (7, Pr.is u_7), (8, isV (α := Int) i_1), (9, Pr.ptr b_10), (11, isV (α := List S_api_Turn) p0.2.2.2.2), (12, isV (α := Int) (p0.2.2.2.2.length : Int)), (13, isV (α := Int) i_1), (17, isV (α := S_api_Turn) v_8)]) ty23 hS rfl ⟨od rfl, od rfl, od rfl, od rfl, od rfl, od rfl, od rfl, od rfl, od rfl, trivial⟩ ⟨fun _ _ _ _ h => h, fun _ _ _ _ h => h, fun _ _ _ _ h => h, fun _ _ _ _ h => h, fun _ _ _ _ h => h, fun _ _ _ _ h => h, fun _ _ _ _ h => h, fun _ _ _ _ h => h, fun _ _ _ _ h => h, trivial⟩ rfl (od rfl) fun w hS hM => ?_
    have hS : St _ F0 [Item.sl (α := Int) 3 u_7 s_3, Item.box (α := S_api_Turn) 23 b_10 v_8] _ w0 _ _ := hS
    have hS := st_freezeB 1 9 hS rfl rfl
    refine l_end ?_
    refine et ?_
    refine ws ?_
    obtain ⟨v_11, e_12, h⟩ := bind_some h
    refine st_reg mixed (by kernel_rfl) hS ?_
    refine cg (sp_fieldAddr fd23_0 (od rfl)) ?_
    refine cg (sp_load ty3 (od rfl)) ?_
    refine mv rfl ?_
    refine cg (sp_eql (od rfl) (od rfl)) ?_
    refine mv rfl ?_
    refine sc (sgT rfl fun hG => sp_move (od rfl)) ?_
    refine sc (sgT rfl fun hG => sp_move (od rfl)) ?_
    refine sc (sgT rfl fun hG => sp_callV (od_fn87 (odw rfl hG)) ⟨odw rfl hG, trivial⟩ (guard_some e_12 hG)) ?_
    refine cg (sp_pickAnd (od rfl) fun hg => odw rfl hg) ?_
    refine sn fun a w hS => ?_
    refine et ?_
    obtain ⟨y_14, hj_13, h⟩ := bind_some h
    refine wp_mono (Q := fun e a w => e = Exit.normal ∧ ∃ u_15 : Value, St 33 F0 [Item.sl (α := Int) 3 u_15 y_14] [(1, isV (α := Int) p1), (2, isV (α := (Int → Option Bool)) p2), (7, Pr.is u_15), (11, isV (α := List S_api_Turn) p0.2.2.2.2), (12, isV (α := Int) (p0.2.2.2.2.length : Int)), (13, isV (α := Int) i_1)] w0 a w) ?_ ?_
    · refine st_cond hS rfl (fun hb => ?_) (fun hb => ?_)
      · have h := ite_t hb hj_13
        obtain ⟨z_16, e_17, h⟩ := bind_some h
        refine l_start ?_
        refine s_c hS (sg (sp_move (od rfl))) rfl fun a w hS hM => ?_
        refine s_c hS (sg (sp_move (od rfl))) rfl fun a w hS hM => ?_
        refine s_c hS (sg (sp_buildSlice [.tmp 28] ([i_1] : List Int) sl39 ze3 rfl rfl rfl rfl ⟨od rfl, trivial⟩)) rfl fun a w hS hM => ?_
        refine s_append (k := 0) (Δ := [(1, isV (α := Int) p1), (2, isV (α := (Int → Option Bool)) p2), (11, isV (α := List S_api_Turn) p0.2.2.2.2), (12, isV (α := Int) (p0.2.2.2.2.length : Int)), (13, isV (α := Int) i_1), (27, Pr.is u_7), (29, isV (α := List Int) ([i_1] : List Int))]) sl39 ze3 hS rfl ⟨od rfl, od rfl, od rfl, od rfl, od rfl, od rfl, od rfl, trivial⟩ ⟨fun _ _ _ _ h => h, fun _ _ _ _ h => h, fun _ _ _ _ h => h, fun _ _ _ _ h => h, fun _ _ _ _ h => h, fun _ _ _ _ h => h, fun _ _ _ _ h => h, trivial⟩ (od rfl) (od rfl) e_17 rfl fun a w u_18 hS hM => ?_
        have hS : St _ F0 [Item.sl (α := Int) 3 u_18 z_16] _ w0 _ _ := hS
        refine s_c hS (sg (sp_assign (od rfl))) rfl fun a w hS hM => ?_
        refine l_end ?_
        cases h
        exact ⟨rfl, u_18, hS.weak ⟨od rfl, od rfl, od rfl, od rfl, od rfl, od rfl, trivial⟩⟩
      have h := ite_f hb hj_13
      refine wp_skip ?_
      cases h
      exact ⟨rfl, u_7, hS.weak ⟨od rfl, od rfl, od rfl, od rfl, od rfl, od rfl, trivial⟩⟩
    rintro e a w ⟨rfl, u_15, hS⟩
    refine exit_block ?_
    refine et ?_
    refine st_reg mixed (by kernel_rfl) hS ?_
    refine cg (sp_add (od rfl) (odi)) ?_
    refine mv rfl ?_
    refine sn fun a w hS => ?_
    cases h
    exact ⟨k_4, _, _, u_15, rfl, hF_4, hS.weak ⟨od rfl, od rfl, od rfl, od rfl, od rfl, od (congrArg (fun z => some (isV (α := Int) z)) hw_4), trivial⟩⟩
  refine wp_exit ?_
  obtain rfl := (fors_done hF_4 hb).symm
  have h := hr_6
  refine exit_thenE ?_
  refine exit_thenE ?_
  refine exit_here ?_
  refine et ?_
  refine ws ?_
  refine st_reg mixed (by kernel_rfl) hS ?_
  refine mv rfl ?_
  refine cg (sp_assign (od rfl)) ?_
  refine sn fun a w hS => ?_
  refine et ?_
  refine wp_ret ?_
  have hS0 := hS
  have hS := st_freeze 0 6 hS rfl rfl
  have hS := st_also (t := 6) (q := 7) hS0 hS rfl rfl rfl
  have hS := st_also (t := 6) (q := 32) hS0 hS rfl rfl rfl
  cases h
  exact st_ret hS (run_results1 Tryz.results62 a w) (hS.get rfl)

theorem f62r_ok {J_ : List Wh.Item} {g_ : FuncId} {κs_ : List Pr} {p0 : S_api_Roster} {p1 : Int} {p2 : (Int → Option Bool)} {r : (List Int)} (hE : RdP (α := Int) (β := Bool) Tryz.prog g_ κs_ J_ p2) (h : M.f62 p0 p1 p2 = some r) : CallF Tryz.prog 62 J_ [isV (α := S_api_Roster) p0, isV (α := Int) p1, Pr.clo g_ κs_] ⟨Unit, fun _ => J_, fun _ => isV (α := List Int) r⟩ := by
  unfold M.f62 at h
  refine callF_of Tryz.func62 rfl Tryz.ntmps62 rfl fun F0 fr w0 w c0_ a hS => ?_
  refine ws ?_
  refine st_reg mixed (by kernel_rfl) hS ?_
  refine cg (sp_box (od rfl)) ?_
  refine cg (sp_assign (odnil (α := Int))) ?_
  refine sn fun a w hS => ?_
  refine et ?_
  refine ws ?_
  refine st_reg mixed (by kernel_rfl) hS ?_
  refine cg (sp_assign (φ := Pr.is (.slice none 0 0)) (odc fun _ => rfl)) ?_
  refine sn fun a w hS => ?_
  have hS := st_nil (α := Int) 3 hS
  have hS := st_rot 0 hS rfl
  have hS : St _ F0 (Item.sl (α := Int) 3 (.slice none 0 0) ([] : List Int) :: (J_ ++ fr)) _ w0 _ _ := hS
  refine et ?_
  refine ws ?_
  refine ws ?_
  refine st_reg mixed (by kernel_rfl) hS ?_
  refine cg (sp_fieldAddr fd34_4 (od rfl)) ?_
  refine cg (sp_load ty32 (od rfl)) ?_
  refine cg (sp_len Tryz.underlying32 (od rfl)) ?_
  refine cg (sp_move (odi)) ?_
  refine sn fun a w hS => ?_
  refine et ?_
  refine wp_block ?_
  obtain ⟨o_4, e_5, hr_6⟩ := bind_some h
  refine c_loop (fun K a w => ∃ k i_1 s_3, ∃ u_7 : Value, K = k + 1 ∧ ForT _ _ _ o_4 k i_1 s_3 ∧ St 33 F0 (Item.sl (α := Int) 3 u_7 s_3 :: (J_ ++ fr)) [(1, isV (α := Int) p1), (2, Pr.clo g_ κs_), (7, Pr.is u_7), (11, isV (α := List S_api_Turn) p0.2.2.2.2), (12, isV (α := Int) (p0.2.2.2.2.length : Int)), (13, isV (α := Int) i_1), (1000000, Pr.seen c0_)] w0 a w) ?_ ?_ ⟨_, _, _, (.slice none 0 0), rfl, fors_init e_5, hS.weak ⟨od rfl, od rfl, od rfl, od rfl, od rfl, od rfl, od rfl, trivial⟩⟩
  · rintro a w ⟨_, _, _, _, hk, _⟩; cases hk
  rintro K a w ⟨k_4, i_1, s_3, u_7, hk, hF_4, hS⟩
  obtain rfl := Nat.succ.inj hk
  refine ws ?_
  refine st_reg mixed (by kernel_rfl) hS ?_
  refine cg (sp_lss (od rfl) (od rfl)) ?_
  refine sn fun a w hS => ?_
  refine et ?_
  refine ws ?_
  refine st_cond hS rfl (fun hb => ?_) (fun hb => ?_)
  · refine wp_skip ?_
    refine et ?_
    obtain ⟨k_4, s', rfl, h, hF_4, hw_4⟩ := fors_more hF_4 hb
    refine ws ?_
    refine wp_block ?_
    refine ws ?_
    obtain ⟨v_8, e_9, h⟩ := bind_some h
    refine l_start ?_
    refine s_c hS (sg (sp_move (od rfl))) rfl fun a w hS hM => ?_
    refine s_c hS (sg (sp_indexAddr sl32 (od rfl) (od rfl) e_9)) rfl fun a w hS hM => ?_
    refine s_c hS (sg (sp_load ty23 (od rfl))) rfl fun a w hS hM => ?_
    refine s_alloc zi23 hS rfl fun a w b_10 hS hM => ?_
    have hS := st_rot 1 hS rfl
    have hS : St _ F0 (Item.sl (α := Int) 3 u_7 s_3 :: Item.box (α := S_api_Turn) 23 b_10 ((0, 0, 0, 0, 0, 0) : S_api_Turn) :: (J_ ++ fr)) _ w0 _ _ := hS
    refine s_c hS (sg (sp_assign (od rfl))) rfl fun a w hS hM => ?_
    refine s_storeB (k := 1) (Δ := [(1, isV (α := Int) p1), (2, Pr.clo g_ κs_), (7, Pr.is u_7), (8, isV (α := Int) i_1), (9, Pr.ptr b_10), (11, isV (α := List S_api_Turn) p0.2.2.2.2), (12, isV (α := Int) (p0.2.2.2.2.length : Int)), (13, isV (α := Int) i_1), (17, isV (α := S_api_Turn) v_8), (1000000, Pr.seen c0_)]) ty23 hS rfl ⟨od rfl, od rfl, od rfl, od rfl, od rfl, od rfl, od rfl, od rfl, od rfl, od rfl, trivial⟩ ⟨fun _ _ _ _ h => h, fun _ _ _ _ h => h, fun _ _ _ _ h => h, fun _ _ _ _ h => h, fun _ _ _ _ h => h, fun _ _ _ _ h => h, fun _ _ _ _ h => h, fun _ _ _ _ h => h, fun _ _ _ _ h => h, fun _ _ _ _ h => h, trivial⟩ rfl (od rfl) fun w hS hM => ?_
    have hS : St _ F0 (Item.sl (α := Int) 3 u_7 s_3 :: Item.box (α := S_api_Turn) 23 b_10 v_8 :: (J_ ++ fr)) _ w0 _ _ := hS
    have hS := st_freezeB 1 9 hS rfl rfl
    refine l_end ?_
    refine et ?_
    refine ws ?_
    obtain ⟨v_11, e_12, h⟩ := bind_some h
    refine l_start ?_
    refine s_c hS (sg (sp_fieldAddr fd23_0 (od rfl))) rfl fun a w hS hM => ?_
    refine s_c hS (sg (sp_load ty3 (od rfl))) rfl fun a w hS hM => ?_
    refine s_c hS (sg (sp_move (od rfl))) rfl fun a w hS hM => ?_
    refine s_c hS (sg (sp_eql (od rfl) (od rfl))) rfl fun a w hS hM => ?_
    refine s_c hS (sg (sp_move (od rfl))) rfl fun a w hS hM => ?_
    refine s_c hS (sgT rfl fun hG => sp_move (od rfl)) rfl fun a w hS hM => ?_
    refine s_c hS (sgT rfl fun hG => sp_move (od rfl)) rfl fun a w hS hM => ?_
    have hS := st_swapF (xs := [Item.sl (α := Int) 3 u_7 s_3]) (ys := J_) (fr := fr) hS
    refine s_callFG (xs := [.tmp 24]) (φs := [isV (α := Int) i_1]) (κs := κs_) (js1 := J_) (fr := Item.sl (α := Int) 3 u_7 s_3 :: fr) (ρ := ⟨Unit, fun _ => J_, fun _ => isV (α := Bool) v_11⟩) (Δ := [(1, isV (α := Int) p1), (2, Pr.clo g_ κs_), (7, Pr.is u_7), (8, isV (α := Int) i_1), (11, isV (α := List S_api_Turn) p0.2.2.2.2), (12, isV (α := Int) (p0.2.2.2.2.length : Int)), (13, isV (α := Int) i_1), (22, isV (α := Bool) (v_8.1 == p1)), (1000000, Pr.seen c0_)]) (g := (v_8.1 == p1)) (gb := true) rfl rfl hE.en (fun hq => hE.ok (guard_some e_12 (gd_true hq))) (fun hq => ⟨(), rfl⟩) hS ⟨od rfl, od rfl, od rfl, od rfl, od rfl, od rfl, od rfl, od rfl, od rfl, trivial⟩ ⟨fun _ _ _ _ h => h, fun _ _ _ _ h => h, fun _ _ _ _ h => h, fun _ _ _ _ h => h, fun _ _ _ _ h => h, fun _ _ _ _ h => h, fun _ _ _ _ h => h, fun _ _ _ _ h => h, fun _ _ _ _ h => h, trivial⟩ (fun hq => have hG := gd_true hq; odw rfl hG) (fun hq => have hG := gd_true hq; ⟨odw rfl hG, trivial⟩) fun a w x_13 hS hM => ?_
    have hS := st_swapF (xs := J_) (ys := [Item.sl (α := Int) 3 u_7 s_3]) (fr := fr) hS
    have hS := st_gd_true hS
    have hS : St _ F0 (Item.sl (α := Int) 3 u_7 s_3 :: (J_ ++ fr)) _ w0 _ _ := hS
    refine s_c hS (sg (sp_pickAnd (od rfl) fun hg => odw rfl hg)) rfl fun a w hS hM => ?_
    refine l_end ?_
    refine et ?_
    obtain ⟨y_15, hj_14, h⟩ := bind_some h
    refine wp_mono (Q := fun e a w => e = Exit.normal ∧ ∃ u_16 : Value, St 33 F0 (Item.sl (α := Int) 3 u_16 y_15 :: (J_ ++ fr)) [(1, isV (α := Int) p1), (2, Pr.clo g_ κs_), (7, Pr.is u_16), (11, isV (α := List S_api_Turn) p0.2.2.2.2), (12, isV (α := Int) (p0.2.2.2.2.length : Int)), (13, isV (α := Int) i_1), (1000000, Pr.seen c0_)] w0 a w) ?_ ?_
    · refine st_cond hS rfl (fun hb => ?_) (fun hb => ?_)
      · have h := ite_t hb hj_14
        obtain ⟨z_17, e_18, h⟩ := bind_some h
        refine l_start ?_
        refine s_c hS (sg (sp_move (od rfl))) rfl fun a w hS hM => ?_
        refine s_c hS (sg (sp_move (od rfl))) rfl fun a w hS hM => ?_
        refine s_c hS (sg (sp_buildSlice [.tmp 28] ([i_1] : List Int) sl39 ze3 rfl rfl rfl rfl ⟨od rfl, trivial⟩)) rfl fun a w hS hM => ?_
        refine s_append (k := 0) (Δ := [(1, isV (α := Int) p1), (2, Pr.clo g_ κs_), (11, isV (α := List S_api_Turn) p0.2.2.2.2), (12, isV (α := Int) (p0.2.2.2.2.length : Int)), (13, isV (α := Int) i_1), (27, Pr.is u_7), (29, isV (α := List Int) ([i_1] : List Int)), (1000000, Pr.seen c0_)]) sl39 ze3 hS rfl ⟨od rfl, od rfl, od rfl, od rfl, od rfl, od rfl, od rfl, od rfl, trivial⟩ ⟨fun _ _ _ _ h => h, fun _ _ _ _ h => h, fun _ _ _ _ h => h, fun _ _ _ _ h => h, fun _ _ _ _ h => h, fun _ _ _ _ h => h, fun _ _ _ _ h => h, fun _ _ _ _ h => h, trivial⟩ (od rfl) (od rfl) e_18 rfl fun a w u_19 hS hM => ?_
        have hS : St _ F0 (Item.sl (α := Int) 3 u_19 z_17 :: (J_ ++ fr)) _ w0 _ _ := hS
        refine s_c hS (sg (sp_assign (od rfl))) rfl fun a w hS hM => ?_
        refine l_end ?_
        cases h
        exact ⟨rfl, u_19, hS.weak ⟨od rfl, od rfl, od rfl, od rfl, od rfl, od rfl, od rfl, trivial⟩⟩
      have h := ite_f hb hj_14
      refine wp_skip ?_
      cases h
      exact ⟨rfl, u_7, hS.weak ⟨od rfl, od rfl, od rfl, od rfl, od rfl, od rfl, od rfl, trivial⟩⟩
    rintro e a w ⟨rfl, u_16, hS⟩
    refine exit_block ?_
    refine et ?_
    refine st_reg mixed (by kernel_rfl) hS ?_
    refine cg (sp_add (od rfl) (odi)) ?_
    refine mv rfl ?_
    refine sn fun a w hS => ?_
    cases h
    exact ⟨k_4, _, _, u_16, rfl, hF_4, hS.weak ⟨od rfl, od rfl, od rfl, od rfl, od rfl, od (congrArg (fun z => some (isV (α := Int) z)) hw_4), od rfl, trivial⟩⟩
  refine wp_exit ?_
  obtain rfl := (fors_done hF_4 hb).symm
  have h := hr_6
  refine exit_thenE ?_
  refine exit_thenE ?_
  refine exit_here ?_
  refine et ?_
  refine ws ?_
  refine st_reg mixed (by kernel_rfl) hS ?_
  refine mv rfl ?_
  refine cg (sp_assign (od rfl)) ?_
  refine sn fun a w hS => ?_
  refine et ?_
  refine wp_ret ?_
  have hS0 := hS
  have hS := st_freeze 0 6 hS rfl rfl
  have hS := st_also (t := 6) (q := 7) hS0 hS rfl rfl rfl
  have hS := st_also (t := 6) (q := 32) hS0 hS rfl rfl rfl
  have hS : St _ F0 ((J_ ++ fr)) _ w0 _ _ := hS
  cases h
  exact st_retF (ρ := ⟨Unit, fun _ => J_, fun _ => isV (α := List Int) _⟩) () hS (run_results1 Tryz.results62 a w) rfl (hS.at_.sat 6 _ rfl)

theorem f87_ok {p0 : Int} {r : Bool} (h : M.f87 p0 = some r) : CallOK Tryz.prog 87 [isV p0] (isV r) := by
  unfold M.f87 at h
  refine callS_of Tryz.func87 rfl Tryz.ntmps87 rfl fun F0 w0 a hS => ?_
  refine ws ?_
  refine st_reg mixed (by kernel_rfl) hS ?_
  refine cg (sp_assign (odb)) ?_
  refine sn fun a w hS => ?_
  refine et ?_
  refine ws ?_
  refine st_reg mixed (by kernel_rfl) hS ?_
  refine cg (sp_assign (odb)) ?_
  refine sn fun a w hS => ?_
  refine et ?_
  refine wp_ret ?_
  cases h
  exact st_ret hS (run_results1 Tryz.results87 a w) (hS.get rfl)

theorem f99_ok {p0 : List Int} {p1 : Int} {r : Int} (h : M.f99 p0 p1 = some r) : CallOK Tryz.prog 99 [isV p0, isV p1] (isV r) := by
  unfold M.f99 at h
  refine callS_of Tryz.func99 rfl Tryz.ntmps99 rfl fun F0 w0 a hS => ?_
  refine ws ?_
  refine st_reg mixed (by kernel_rfl) hS ?_
  refine cg (sp_assign (odi)) ?_
  refine sn fun a w hS => ?_
  refine et ?_
  refine ws ?_
  refine ws ?_
  refine st_reg mixed (by kernel_rfl) hS ?_
  refine mv rfl ?_
  refine cg (sp_len Tryz.underlying39 (od rfl)) ?_
  refine cg (sp_move (odi)) ?_
  refine sn fun a w hS => ?_
  refine et ?_
  refine wp_block ?_
  obtain ⟨o_4, e_5, hr_6⟩ := bind_some h
  refine c_loop (fun K a w => ∃ k i_1 s_3, K = k + 1 ∧ ForI _ _ _ o_4 k i_1 s_3 ∧ St 19 F0 [] [(0, isV (α := List Int) p0), (1, isV (α := Int) p1), (7, isV (α := Int) (p0.length : Int)), (8, isV (α := Int) i_1)] w0 a w) ?_ ?_ ⟨_, _, _, rfl, for_init e_5, hS.weak ⟨od rfl, od rfl, od rfl, od rfl, trivial⟩⟩
  · rintro a w ⟨_, _, _, hk, _⟩; cases hk
  rintro K a w ⟨k_4, i_1, s_3, hk, hF_4, hS⟩
  obtain rfl := Nat.succ.inj hk
  refine ws ?_
  refine st_reg mixed (by kernel_rfl) hS ?_
  refine cg (sp_lss (od rfl) (od rfl)) ?_
  refine sn fun a w hS => ?_
  refine et ?_
  refine ws ?_
  refine st_cond hS rfl (fun hb => ?_) (fun hb => ?_)
  · refine wp_skip ?_
    refine et ?_
    obtain ⟨k_4, o, rfl, h, hN_4, hL_4, hw_4⟩ := for_more hF_4 hb
    refine ws ?_
    refine wp_block ?_
    refine ws ?_
    refine st_reg mixed (by kernel_rfl) hS ?_
    refine mv rfl ?_
    refine cg (sp_assign (od rfl)) ?_
    refine sn fun a w hS => ?_
    refine et ?_
    refine ws ?_
    obtain ⟨v_7, e_8, h⟩ := bind_some h
    refine st_reg mixed (by kernel_rfl) hS ?_
    refine mv rfl ?_
    refine mv rfl ?_
    refine mv rfl ?_
    refine cg (sp_indexAddr sl39 (od rfl) (od rfl) e_8) ?_
    refine cg (sp_load ty3 (od rfl)) ?_
    refine cg (sp_eql (od rfl) (od rfl)) ?_
    refine sn fun a w hS => ?_
    refine et ?_
    refine st_cond hS rfl (fun hb => ?_) (fun hb => ?_)
    · have h := ite_t hb h
      refine ws ?_
      refine st_reg mixed (by kernel_rfl) hS ?_
      refine mv rfl ?_
      refine cg (sp_assign (od rfl)) ?_
      refine sn fun a w hS => ?_
      refine et ?_
      refine wp_ret ?_
      refine exit_blockR ?_
      refine exit_thenR ?_
      cases h
      obtain rfl := hL_4 _ rfl
      have h := (elim_leave hr_6)
      refine exit_thenR ?_
      refine exit_blockR ?_
      refine exit_thenR ?_
      cases h
      exact st_ret hS (run_results1 Tryz.results99 a w) (hS.get rfl)
    have h := ite_f hb h
    refine wp_skip ?_
    refine exit_block ?_
    refine et ?_
    refine st_reg mixed (by kernel_rfl) hS ?_
    refine cg (sp_add (od rfl) (odi)) ?_
    refine mv rfl ?_
    refine sn fun a w hS => ?_
    cases h
    exact ⟨k_4, _, _, rfl, hN_4 _ rfl, hS.weak ⟨od rfl, od rfl, od rfl, od (congrArg (fun z => some (isV (α := Int) z)) hw_4), trivial⟩⟩
  refine wp_exit ?_
  obtain rfl := for_done hF_4 hb
  have h := elim_again hr_6
  refine exit_thenE ?_
  refine exit_thenE ?_
  refine exit_here ?_
  refine et ?_
  refine ws ?_
  refine st_reg mixed (by kernel_rfl) hS ?_
  refine cg (sp_assign (odi)) ?_
  refine sn fun a w hS => ?_
  refine et ?_
  refine wp_ret ?_
  cases h
  exact st_ret hS (run_results1 Tryz.results99 a w) (hS.get rfl)

theorem f61_ok {p0 : List Int} {p1 : Int} {r : Bool} (h : M.f61 p0 p1 = some r) : CallOK Tryz.prog 61 [isV p0, isV p1] (isV r) := by
  unfold M.f61 at h
  refine callS_of Tryz.func61 rfl Tryz.ntmps61 rfl fun F0 w0 a hS => ?_
  refine ws ?_
  refine st_reg mixed (by kernel_rfl) hS ?_
  refine cg (sp_assign (odb)) ?_
  refine sn fun a w hS => ?_
  refine et ?_
  refine ws ?_
  obtain ⟨v_1, e_2, h⟩ := bind_some h
  refine st_reg mixed (by kernel_rfl) hS ?_
  refine mv rfl ?_
  refine mv rfl ?_
  refine cg (sp_call en99 (f99_ok e_2) ⟨od rfl, od rfl, trivial⟩) ?_
  refine cg (sp_geq (od rfl) (odi)) ?_
  refine cg (sp_assign (od rfl)) ?_
  refine sn fun a w hS => ?_
  refine et ?_
  refine wp_ret ?_
  cases h
  exact st_ret hS (run_results1 Tryz.results61 a w) (hS.get rfl)

theorem f44_ok {fuel : Nat} {p0 : S_api_Roster} {p1 : Int} {p2 : ((List Int) → (List Int) → Option Int)} {r : (List (NL Int))} (h : M.f44 fuel p0 p1 p2 = some r) : CallOK Tryz.prog 44 [isV p0, isV p1, isV p2] (isV r) := by
  unfold M.f44 at h
  refine callS_of Tryz.func44 rfl Tryz.ntmps44 rfl fun F0 w0 a hS => ?_
  refine ws ?_
  refine st_reg mixed (by kernel_rfl) hS ?_
  refine cg (sp_box (od rfl)) ?_
  refine cg (sp_box (od rfl)) ?_
  refine cg (sp_assign (odnil (α := List Int))) ?_
  refine sn fun a w hS => ?_
  refine et ?_
  refine ws ?_
  obtain ⟨q_1, e_2, h⟩ := bind_some h
  refine l_start ?_
  refine s_c hS (sg (sp_fieldAddr fd34_4 (od rfl))) rfl fun a w hS hM => ?_
  refine s_c hS (sg (sp_load ty32 (od rfl))) rfl fun a w hS hM => ?_
  refine s_c hS (sg (sp_len Tryz.underlying32 (od rfl))) rfl fun a w hS hM => ?_
  refine s_make sl100031 ze100039 zi100039 rfl hS (od rfl) e_2 rfl fun a w u_3 hS hM => ?_
  have hS : St _ F0 [Item.sl (α := NL Int) 39 u_3 q_1] _ w0 _ _ := hS
  refine s_alloc ziR31_w hS rfl fun a w b_4 hS hM => ?_
  have hS : St _ F0 [Item.sl (α := NL Int) 39 u_3 q_1, Item.box (α := Raw) 31 b_4 (Raw.mk (.slice none 0 0))] _ w0 _ _ := hS
  have hS := st_nil (α := List Int) 39 hS
  have hS : St _ F0 [Item.sl (α := NL Int) 39 u_3 q_1, Item.box (α := Raw) 31 b_4 (Raw.mk (.slice none 0 0)), Item.sl (α := List Int) 39 (.slice none 0 0) ([] : List (List Int))] _ w0 _ _ := hS
  refine s_storeB (k := 1) (Δ := [(1, isV (α := Int) p1), (3, isA (α := S_api_Roster) p0), (5, isA (α := ((List Int) → (List Int) → Option Int)) p2), (7, Pr.ptr b_4), (21, Pr.is u_3)]) tyR31_w hS rfl ⟨od rfl, od rfl, od rfl, od rfl, od rfl, trivial⟩ ⟨fun _ _ _ _ h => h, fun _ _ _ _ h => h, fun _ _ _ _ h => h, fun _ _ _ _ h => h, fun _ _ _ _ h => h, trivial⟩ rfl (odRaw (od rfl) (hS.one (k := 0) rfl)) fun w hS hM => ?_
  have hS : St _ F0 [Item.sl (α := NL Int) 39 u_3 q_1, Item.box (α := Raw) 31 b_4 (Raw.mk u_3), Item.sl (α := List Int) 39 (.slice none 0 0) ([] : List (List Int))] _ w0 _ _ := hS
  refine l_end ?_
  refine et ?_
  refine ws ?_
  have hS := st_drop 2 hS
  refine st_reg mixed (by kernel_rfl) hS ?_
  refine cg (sp_makeClo (κs := [Pr.ptr b_4, isA (α := ((List Int) → (List Int) → Option Int)) p2]) ⟨fun _ _ _ _ h => h, fun _ _ _ _ h => h, trivial⟩ ⟨(od rfl), od rfl, trivial⟩) ?_
  refine cg (sp_assign (od rfl)) ?_
  refine sn fun a w hS => ?_
  refine et ?_
  refine ws ?_
  obtain ⟨v_5, e_6, h⟩ := bind_some h
  refine st_reg mixed (by kernel_rfl) hS ?_
  refine cg (sp_load ty34 (od rfl)) ?_
  refine mv rfl ?_
  refine cg (sp_call en62 (f62_ok e_6) ⟨od rfl, od rfl, of_fn87 (f := (fun x0 => M.f87 x0)) en87 (fun _ _ h => f87_ok h), trivial⟩) ?_
  refine cg (sp_assign (od rfl)) ?_
  refine sn fun a w hS => ?_
  refine et ?_
  refine ws ?_
  refine ws ?_
  refine st_reg mixed (by kernel_rfl) hS ?_
  refine mv rfl ?_
  refine cg (sp_len Tryz.underlying39 (od rfl)) ?_
  refine cg (sp_move (odi)) ?_
  refine sn fun a w hS => ?_
  refine et ?_
  refine wp_block ?_
  obtain ⟨o_10, e_11, hr_12⟩ := bind_some h
  refine c_loop (fun K a w => ∃ k i_7 s_9, ∃ u_13 : Value, K = k + 1 ∧ ForT _ _ _ o_10 k i_7 s_9 ∧ St 90 F0 [Item.sl (α := NL Int) 39 u_13 s_9, Item.box (α := Raw) 31 b_4 (Raw.mk u_13)] [(3, isA (α := S_api_Roster) p0), (7, Pr.ptr b_4), (8, Pr.clo 86 [Pr.ptr b_4, isA (α := ((List Int) → (List Int) → Option Int)) p2]), (9, isV (α := List Int) v_5), (26, isV (α := List Int) v_5), (27, isV (α := Int) (v_5.length : Int)), (28, isV (α := Int) i_7)] w0 a w) ?_ ?_ ⟨_, _, _, u_3, rfl, fors_init e_11, hS.weak ⟨od rfl, od rfl, od rfl, od rfl, od rfl, od rfl, od rfl, trivial⟩⟩
  · rintro a w ⟨_, _, _, _, hk, _⟩; cases hk
  rintro K a w ⟨k_10, i_7, s_9, u_13, hk, hF_10, hS⟩
  obtain rfl := Nat.succ.inj hk
  refine ws ?_
  refine st_reg mixed (by kernel_rfl) hS ?_
  refine cg (sp_lss (od rfl) (od rfl)) ?_
  refine sn fun a w hS => ?_
  refine et ?_
  refine ws ?_
  refine st_cond hS rfl (fun hb => ?_) (fun hb => ?_)
  · refine wp_skip ?_
    refine et ?_
    obtain ⟨k_10, s', rfl, h, hF_10, hw_10⟩ := fors_more hF_10 hb
    refine ws ?_
    refine wp_block ?_
    refine ws ?_
    obtain ⟨v_14, e_15, h⟩ := bind_some h
    refine st_reg mixed (by kernel_rfl) hS ?_
    refine cg (sp_indexAddr sl39 (od rfl) (od rfl) e_15) ?_
    refine cg (sp_load ty3 (od rfl)) ?_
    refine cg (sp_assign (od rfl)) ?_
    refine sn fun a w hS => ?_
    refine et ?_
    refine ws ?_
    obtain ⟨v_16, e_17, h⟩ := bind_some h
    obtain ⟨v_18, e_19, h⟩ := bind_some h
    refine st_reg mixed (by kernel_rfl) hS ?_
    refine cg (sp_load ty34 (od rfl)) ?_
    refine mv rfl ?_
    refine cg (sp_call en33 (f33_ok e_17) ⟨od rfl, od rfl, trivial⟩) ?_
    refine cg (sp_call en34 (f34_ok e_19) ⟨od rfl, trivial⟩) ?_
    refine sn fun a w hS => ?_
    refine et ?_
    obtain ⟨y_21, hj_20, h⟩ := bind_some h
    refine wp_mono (Q := fun e a w => e = Exit.normal ∧ ∃ u_22 : Value, St 90 F0 [Item.sl (α := NL Int) 39 u_22 y_21, Item.box (α := Raw) 31 b_4 (Raw.mk u_22)] [(3, isA (α := S_api_Roster) p0), (7, Pr.ptr b_4), (8, Pr.clo 86 [Pr.ptr b_4, isA (α := ((List Int) → (List Int) → Option Int)) p2]), (9, isV (α := List Int) v_5), (26, isV (α := List Int) v_5), (27, isV (α := Int) (v_5.length : Int)), (28, isV (α := Int) i_7)] w0 a w) ?_ ?_
    · refine st_cond hS rfl (fun hb => ?_) (fun hb => ?_)
      · have h := ite_t hb hj_20
        obtain ⟨z_23, e_24, h⟩ := bind_some h
        refine l_start ?_
        refine s_c hS (sg (sp_move (od rfl))) rfl fun a w hS hM => ?_
        refine s_c hS (sg (sp_move (od rfl))) rfl fun a w hS hM => ?_
        refine s_c hS (sg (sp_move (od rfl))) rfl fun a w hS hM => ?_
        refine s_c hS (sg (sp_buildSlice [.tmp 38] ([v_14] : List Int) sl39 ze3 rfl rfl rfl rfl ⟨od rfl, trivial⟩)) rfl fun a w hS hM => ?_
        have hS := st_front 1 hS rfl
        have hS : St _ F0 [Item.box (α := Raw) 31 b_4 (Raw.mk u_13), Item.sl (α := NL Int) 39 u_13 s_9] _ w0 _ _ := hS
        refine s_callF (φs := [isV (α := Int) v_14, isV (α := List Int) ([v_14] : List Int)]) (κs := [Pr.ptr b_4, isA (α := ((List Int) → (List Int) → Option Int)) p2]) (js1 := [Item.box (α := Raw) 31 b_4 (Raw.mk u_13), Item.sl (α := NL Int) 39 u_13 s_9]) (fr := []) (Δ := [(3, isA (α := S_api_Roster) p0), (7, Pr.ptr b_4), (8, Pr.clo 86 [Pr.ptr b_4, isA (α := ((List Int) → (List Int) → Option Int)) p2]), (9, isV (α := List Int) v_5), (26, isV (α := List Int) v_5), (27, isV (α := Int) (v_5.length : Int)), (28, isV (α := Int) i_7), (36, Pr.clo 86 [Pr.ptr b_4, isA (α := ((List Int) → (List Int) → Option Int)) p2]), (37, isV (α := Int) v_14), (39, isV (α := List Int) ([v_14] : List Int))]) en86 (f86_ok e_24) hS ⟨od rfl, od rfl, od rfl, od rfl, od rfl, od rfl, od rfl, od rfl, od rfl, od rfl, trivial⟩ ⟨fun _ _ _ _ h => h, fun _ _ _ _ h => h, fun _ _ _ _ h => h, fun _ _ _ _ h => h, fun _ _ _ _ h => h, fun _ _ _ _ h => h, fun _ _ _ _ h => h, fun _ _ _ _ h => h, fun _ _ _ _ h => h, fun _ _ _ _ h => h, trivial⟩ (od rfl) ⟨od rfl, od rfl, trivial⟩ rfl fun a w x_25 hS hM => ?_
        have hS : St _ F0 [Item.box (α := Raw) 31 b_4 (Raw.mk x_25), Item.sl (α := NL Int) 39 x_25 z_23.2] _ w0 _ _ := hS
        refine l_end ?_
        have hS := st_front 1 hS rfl
        have hS : St _ F0 [Item.sl (α := NL Int) 39 x_25 z_23.2, Item.box (α := Raw) 31 b_4 (Raw.mk x_25)] _ w0 _ _ := hS
        cases h
        exact ⟨rfl, x_25, hS.weak ⟨od rfl, od rfl, od rfl, od rfl, od rfl, od rfl, od rfl, trivial⟩⟩
      have h := ite_f hb hj_20
      refine wp_skip ?_
      cases h
      exact ⟨rfl, u_13, hS.weak ⟨od rfl, od rfl, od rfl, od rfl, od rfl, od rfl, od rfl, trivial⟩⟩
    rintro e a w ⟨rfl, u_22, hS⟩
    refine exit_block ?_
    refine et ?_
    refine st_reg mixed (by kernel_rfl) hS ?_
    refine cg (sp_add (od rfl) (odi)) ?_
    refine mv rfl ?_
    refine sn fun a w hS => ?_
    cases h
    exact ⟨k_10, _, _, u_22, rfl, hF_10, hS.weak ⟨od rfl, od rfl, od rfl, od rfl, od rfl, od rfl, od (congrArg (fun z => some (isV (α := Int) z)) hw_10), trivial⟩⟩
  refine wp_exit ?_
  obtain rfl := (fors_done hF_10 hb).symm
  have h := hr_12
  refine exit_thenE ?_
  refine exit_thenE ?_
  refine exit_here ?_
  refine et ?_
  refine ws ?_
  refine ws ?_
  refine st_reg mixed (by kernel_rfl) hS ?_
  refine cg (sp_assign (odb)) ?_
  refine sn fun a w hS => ?_
  refine et ?_
  refine wp_block ?_
  obtain ⟨o_27, e_28, hr_29⟩ := bind_some h
  refine c_loop (fun K a w => ∃ s_26 : Bool × (List (NL Int)), ∃ u_30 : Value, loopM _ K s_26 = some o_27 ∧ St 90 F0 [Item.sl (α := NL Int) 39 u_30 s_26.2, Item.box (α := Raw) 31 b_4 (Raw.mk u_30)] [(3, isA (α := S_api_Roster) p0), (7, Pr.ptr b_4), (8, Pr.clo 86 [Pr.ptr b_4, isA (α := ((List Int) → (List Int) → Option Int)) p2]), (9, isV (α := List Int) v_5), (12, isV (α := Bool) s_26.1)] w0 a w) ?_ ?_ ⟨_, u_13, e_28, hS.weak ⟨od rfl, od rfl, od rfl, od rfl, od rfl, trivial⟩⟩
  · rintro a w ⟨_, _, hk, _⟩; cases hk
  rintro K a w ⟨s_26, u_30, hF_27, hS⟩
  obtain ⟨o, h, hN_27, hL_27⟩ := loop_more hF_27
  refine ws ?_
  refine ws ?_
  refine st_reg mixed (by kernel_rfl) hS ?_
  refine mv rfl ?_
  refine sn fun a w hS => ?_
  refine et ?_
  refine st_cond hS rfl (fun hb => ?_) (fun hb => ?_)
  · have h := ite_t hb h
    refine wp_skip ?_
    refine et ?_
    refine wp_block ?_
    refine ws ?_
    refine st_reg mixed (by kernel_rfl) hS ?_
    refine cg (sp_assign (odb)) ?_
    refine sn fun a w hS => ?_
    refine et ?_
    refine ws ?_
    refine st_reg mixed (by kernel_rfl) hS ?_
    refine mv rfl ?_
    refine cg (sp_len Tryz.underlying39 (od rfl)) ?_
    refine cg (sp_move (odi)) ?_
    refine sn fun a w hS => ?_
    refine et ?_
    refine wp_block ?_
    obtain ⟨o_34, e_35, hr_36⟩ := bind_some h
    refine c_loop (fun K a w => ∃ k i_31 s_33, ∃ u_37 : Value, K = k + 1 ∧ ForT _ _ _ o_34 k i_31 s_33 ∧ St 90 F0 [Item.sl (α := NL Int) 39 u_37 s_33.2, Item.box (α := Raw) 31 b_4 (Raw.mk u_37)] [(3, isA (α := S_api_Roster) p0), (7, Pr.ptr b_4), (8, Pr.clo 86 [Pr.ptr b_4, isA (α := ((List Int) → (List Int) → Option Int)) p2]), (9, isV (α := List Int) v_5), (12, isV (α := Bool) s_33.1), (43, isV (α := List Int) v_5), (44, isV (α := Int) (v_5.length : Int)), (45, isV (α := Int) i_31)] w0 a w) ?_ ?_ ⟨_, _, _, u_30, rfl, fors_init e_35, hS.weak ⟨od rfl, od rfl, od rfl, od rfl, od rfl, od rfl, od rfl, od rfl, trivial⟩⟩
    · rintro a w ⟨_, _, _, _, hk, _⟩; cases hk
    rintro K a w ⟨k_34, i_31, s_33, u_37, hk, hF_34, hS⟩
    obtain rfl := Nat.succ.inj hk
    refine ws ?_
    refine st_reg mixed (by kernel_rfl) hS ?_
    refine cg (sp_lss (od rfl) (od rfl)) ?_
    refine sn fun a w hS => ?_
    refine et ?_
    refine ws ?_
    refine st_cond hS rfl (fun hb => ?_) (fun hb => ?_)
    · refine wp_skip ?_
      refine et ?_
      obtain ⟨k_34, s', rfl, h, hF_34, hw_34⟩ := fors_more hF_34 hb
      refine ws ?_
      refine wp_block ?_
      refine ws ?_
      obtain ⟨v_38, e_39, h⟩ := bind_some h
      refine st_reg mixed (by kernel_rfl) hS ?_
      refine cg (sp_indexAddr sl39 (od rfl) (od rfl) e_39) ?_
      refine cg (sp_load ty3 (od rfl)) ?_
      refine cg (sp_assign (od rfl)) ?_
      refine sn fun a w hS => ?_
      refine et ?_
      refine ws ?_
      refine st_reg mixed (by kernel_rfl) hS ?_
      refine mv rfl ?_
      refine cg (sp_len Tryz.underlying39 (od rfl)) ?_
      refine cg (sp_move (odi)) ?_
      refine sn fun a w hS => ?_
      refine et ?_
      refine wp_block ?_
      obtain ⟨o_43, e_44, hr_45⟩ := bind_some h
      refine c_loop (fun K a w => ∃ k i_40 s_42, ∃ u_46 : Value, K = k + 1 ∧ ForT _ _ _ o_43 k i_40 s_42 ∧ St 90 F0 [Item.sl (α := NL Int) 39 u_46 s_42.2, Item.box (α := Raw) 31 b_4 (Raw.mk u_46)] [(3, isA (α := S_api_Roster) p0), (7, Pr.ptr b_4), (8, Pr.clo 86 [Pr.ptr b_4, isA (α := ((List Int) → (List Int) → Option Int)) p2]), (9, isV (α := List Int) v_5), (12, isV (α := Bool) s_42.1), (14, isV (α := Int) v_38), (43, isV (α := List Int) v_5), (44, isV (α := Int) (v_5.length : Int)), (45, isV (α := Int) i_31), (49, isV (α := List Int) v_5), (50, isV (α := Int) (v_5.length : Int)), (51, isV (α := Int) i_40)] w0 a w) ?_ ?_ ⟨_, _, _, u_37, rfl, fors_init e_44, hS.weak ⟨od rfl, od rfl, od rfl, od rfl, od rfl, od rfl, od rfl, od rfl, od rfl, od rfl, od rfl, od rfl, trivial⟩⟩
      · rintro a w ⟨_, _, _, _, hk, _⟩; cases hk
      rintro K a w ⟨k_43, i_40, s_42, u_46, hk, hF_43, hS⟩
      obtain rfl := Nat.succ.inj hk
      refine ws ?_
      refine st_reg mixed (by kernel_rfl) hS ?_
      refine cg (sp_lss (od rfl) (od rfl)) ?_
      refine sn fun a w hS => ?_
      refine et ?_
      refine ws ?_
      refine st_cond hS rfl (fun hb => ?_) (fun hb => ?_)
      · refine wp_skip ?_
        refine et ?_
        obtain ⟨k_43, s', rfl, h, hF_43, hw_43⟩ := fors_more hF_43 hb
        refine ws ?_
        refine wp_block ?_
        refine ws ?_
        obtain ⟨v_47, e_48, h⟩ := bind_some h
        refine st_reg mixed (by kernel_rfl) hS ?_
        refine cg (sp_indexAddr sl39 (od rfl) (od rfl) e_48) ?_
        refine cg (sp_load ty3 (od rfl)) ?_
        refine cg (sp_assign (od rfl)) ?_
        refine sn fun a w hS => ?_
        refine et ?_
        refine ws ?_
        have hS := st_boxR 1 0 7 hS rfl rfl rfl
        obtain ⟨v_49, e_50, h⟩ := bind_some h
        refine st_reg mixed (by kernel_rfl) hS ?_
        refine cg (sp_loadBoxR tyR31_w (od rfl)) ?_
        refine mv rfl ?_
        refine cg (sp_indexAddrOS sl100031 (od rfl) (od rfl) e_50) ?_
        refine cg (sp_loadEA ty100039 (od rfl)) ?_
        refine cg (sp_assign (od rfl)) ?_
        refine sn fun a w hS => ?_
        refine et ?_
        refine ws ?_
        obtain ⟨v_51, e_52, h⟩ := bind_some h
        obtain ⟨v_53, e_54, h⟩ := bind_some h
        obtain ⟨z_55, e_56, h⟩ := bind_some h
        obtain ⟨z_57, e_58, h⟩ := bind_some h
        obtain ⟨z_59, e_60, h⟩ := bind_some h
        refine l_start ?_
        refine s_c hS (sg (sp_move (od rfl))) rfl fun a w hS hM => ?_
        refine s_c hS (sg (sp_neqNL Tryz.underlying39 (od rfl))) rfl fun a w hS hM => ?_
        refine s_c hS (sg (sp_move (od rfl))) rfl fun a w hS hM => ?_
        refine s_c hS (sgT rfl fun hG => sp_load ty34 (od rfl)) rfl fun a w hS hM => ?_
        refine s_c hS (sgT rfl fun hG => sp_move (od rfl)) rfl fun a w hS hM => ?_
        refine s_c hS (sgT rfl fun hG => sp_move (od rfl)) rfl fun a w hS hM => ?_
        refine s_c hS (sgT rfl fun hG => sp_call en35 (f35_ok (guard_some e_52 hG)) ⟨odw rfl hG, odw rfl hG, odw rfl hG, trivial⟩) rfl fun a w hS hM => ?_
        refine s_c hS (sg (sp_pickAnd (od rfl) fun hg => odw rfl hg)) rfl fun a w hS hM => ?_
        refine s_c hS (sg (sp_move (od rfl))) rfl fun a w hS hM => ?_
        refine s_c hS (sgT rfl fun hG => sp_move (od rfl)) rfl fun a w hS hM => ?_
        refine s_c hS (sgT rfl fun hG => sp_move (od rfl)) rfl fun a w hS hM => ?_
        refine s_c hS (sgT rfl fun hG => sp_call en61 (f61_ok (guard_some e_54 hG)) ⟨odNLw rfl hG, odw rfl hG, trivial⟩) rfl fun a w hS hM => ?_
        refine s_c hS (sgT rfl fun hG => sp_not (odw rfl hG)) rfl fun a w hS hM => ?_
        refine s_c hS (sg (sp_pickAnd (od rfl) fun hg => odw rfl hg)) rfl fun a w hS hM => ?_
        refine s_c hS (sg (sp_move (od rfl))) rfl fun a w hS hM => ?_
        refine s_c hS (sgT rfl fun hG => sp_move (od rfl)) rfl fun a w hS hM => ?_
        refine s_c hS (sgT rfl fun hG => sp_move (od rfl)) rfl fun a w hS hM => ?_
        refine s_c hS (sgT rfl fun hG => sp_move (od rfl)) rfl fun a w hS hM => ?_
        refine s_c hS (sgT rfl fun hG => sp_move (od rfl)) rfl fun a w hS hM => ?_
        refine s_c hS (sgT rfl fun hG => sp_len Tryz.underlying39 (odNLw rfl hG)) rfl fun a w hS hM => ?_
        refine s_c hS (sgT rfl fun hG => sp_move (od rfl)) rfl fun a w hS hM => ?_
        refine s_c hS (sgT rfl fun hG => sp_len Tryz.underlying39 (odNLw rfl hG)) rfl fun a w hS hM => ?_
        refine s_c hS (sgT rfl fun hG => sp_slice3B sl39 (odNLw rfl hG) (odw rfl hG) (odw rfl hG) (guard_some e_56 hG)) rfl fun a w hS hM => ?_
        refine s_c hS (sgT rfl fun hG => sp_move (od rfl)) rfl fun a w hS hM => ?_
        refine s_c hS (sgT rfl fun hG => sp_buildSlice [.tmp 82] ([v_47] : List Int) sl39 ze3 rfl rfl rfl rfl ⟨odw rfl hG, trivial⟩) rfl fun a w hS hM => ?_
        refine s_c hS (sgT rfl fun hG => sp_appendFull sl39 ze3 (odw rfl hG) (odw rfl hG) (guard_some e_58 hG)) rfl fun a w hS hM => ?_
        have hS := st_front 1 hS rfl
        have hS : St _ F0 [Item.box (α := Raw) 31 b_4 (Raw.mk u_46), Item.sl (α := NL Int) 39 u_46 s_42.2] _ w0 _ _ := hS
        refine s_callFG (xs := [.tmp 75, .tmp 84]) (φs := [isV (α := Int) v_47, isV (α := List Int) z_57]) (κs := [Pr.ptr b_4, isA (α := ((List Int) → (List Int) → Option Int)) p2]) (js1 := [Item.box (α := Raw) 31 b_4 (Raw.mk u_46), Item.sl (α := NL Int) 39 u_46 s_42.2]) (fr := []) (ρ := ⟨Value, fun x_ => [Item.box (α := Raw) 31 b_4 (Raw.mk x_), Item.sl (α := NL Int) 39 x_ z_59.2], fun _ => isV (α := Bool) z_59.1⟩) (Δ := [(3, isA (α := S_api_Roster) p0), (7, Pr.ptr b_4), (8, Pr.clo 86 [Pr.ptr b_4, isA (α := ((List Int) → (List Int) → Option Int)) p2]), (9, isV (α := List Int) v_5), (12, isV (α := Bool) s_42.1), (14, isV (α := Int) v_38), (43, isV (α := List Int) v_5), (44, isV (α := Int) (v_5.length : Int)), (45, isV (α := Int) i_31), (49, isV (α := List Int) v_5), (50, isV (α := Int) (v_5.length : Int)), (51, isV (α := Int) i_40), (73, isV (α := Bool) (((!v_49.l.isEmpty) && v_51) && (!v_53)))]) (g := (((!v_49.l.isEmpty) && v_51) && (!v_53))) (gb := true) rfl rfl en86 (fun hq => f86_ok (ite_t_ e_60 (gd_true hq))) (fun hq => ⟨u_46, by cases (ite_f_ e_60 (gd_trueN hq)); rfl⟩) hS ⟨od rfl, odBxR rfl, od rfl, od rfl, od rfl, od rfl, od rfl, od rfl, od rfl, od rfl, od rfl, od rfl, od rfl, trivial⟩ ⟨fun _ _ _ _ h => h, fun _ _ _ _ h => h, fun _ _ _ _ h => h, fun _ _ _ _ h => h, fun _ _ _ _ h => h, fun _ _ _ _ h => h, fun _ _ _ _ h => h, fun _ _ _ _ h => h, fun _ _ _ _ h => h, fun _ _ _ _ h => h, fun _ _ _ _ h => h, fun _ _ _ _ h => h, fun _ _ _ _ h => h, trivial⟩ (fun hq => have hG := gd_true hq; odw rfl hG) (fun hq => have hG := gd_true hq; ⟨odw rfl hG, odw rfl hG, trivial⟩) fun a w x_61 hS hM => ?_
        have hS := st_gd_true hS
        have hS : St _ F0 [Item.box (α := Raw) 31 b_4 (Raw.mk x_61), Item.sl (α := NL Int) 39 x_61 z_59.2] _ w0 _ _ := hS
        refine s_c hS (sg (sp_pickAnd (od rfl) fun hg => odw rfl hg)) rfl fun a w hS hM => ?_
        refine l_end ?_
        refine et ?_
        obtain ⟨y_63, hj_62, h⟩ := bind_some h
        refine wp_mono (Q := fun e a w => e = Exit.normal ∧ St 90 F0 [Item.box (α := Raw) 31 b_4 (Raw.mk x_61), Item.sl (α := NL Int) 39 x_61 z_59.2] [(3, isA (α := S_api_Roster) p0), (7, Pr.ptr b_4), (8, Pr.clo 86 [Pr.ptr b_4, isA (α := ((List Int) → (List Int) → Option Int)) p2]), (9, isV (α := List Int) v_5), (12, isV (α := Bool) y_63), (14, isV (α := Int) v_38), (43, isV (α := List Int) v_5), (44, isV (α := Int) (v_5.length : Int)), (45, isV (α := Int) i_31), (49, isV (α := List Int) v_5), (50, isV (α := Int) (v_5.length : Int)), (51, isV (α := Int) i_40)] w0 a w) ?_ ?_
        · refine st_cond hS rfl (fun hb => ?_) (fun hb => ?_)
          · have h := ite_t hb hj_62
            refine st_reg mixed (by kernel_rfl) hS ?_
            refine cg (sp_assign (odb)) ?_
            refine sn fun a w hS => ?_
            cases h
            exact ⟨rfl, hS.weak ⟨od rfl, od rfl, od rfl, od rfl, od rfl, od rfl, od rfl, od rfl, od rfl, od rfl, od rfl, od rfl, trivial⟩⟩
          have h := ite_f hb hj_62
          refine wp_skip ?_
          cases h
          exact ⟨rfl, hS.weak ⟨od rfl, od rfl, od rfl, od rfl, od rfl, od rfl, od rfl, od rfl, od rfl, od rfl, od rfl, od rfl, trivial⟩⟩
        rintro e a w ⟨rfl, hS⟩
        refine exit_block ?_
        refine et ?_
        refine st_reg mixed (by kernel_rfl) hS ?_
        refine cg (sp_add (od rfl) (odi)) ?_
        refine mv rfl ?_
        refine sn fun a w hS => ?_
        have hS := st_front 1 hS rfl
        have hS : St _ F0 [Item.sl (α := NL Int) 39 x_61 z_59.2, Item.box (α := Raw) 31 b_4 (Raw.mk x_61)] _ w0 _ _ := hS
        cases h
        exact ⟨k_43, _, _, x_61, rfl, hF_43, hS.weak ⟨od rfl, od rfl, od rfl, od rfl, od rfl, od rfl, od rfl, od rfl, od rfl, od rfl, od rfl, od (congrArg (fun z => some (isV (α := Int) z)) hw_43), trivial⟩⟩
      refine wp_exit ?_
      obtain rfl := (fors_done hF_43 hb).symm
      have h := hr_45
      refine exit_thenE ?_
      refine exit_thenE ?_
      refine exit_here ?_
      refine exit_block ?_
      refine et ?_
      refine st_reg mixed (by kernel_rfl) hS ?_
      refine cg (sp_add (od rfl) (odi)) ?_
      refine mv rfl ?_
      refine sn fun a w hS => ?_
      cases h
      exact ⟨k_34, _, _, u_46, rfl, hF_34, hS.weak ⟨od rfl, od rfl, od rfl, od rfl, od rfl, od rfl, od rfl, od (congrArg (fun z => some (isV (α := Int) z)) hw_34), trivial⟩⟩
    refine wp_exit ?_
    obtain rfl := (fors_done hF_34 hb).symm
    have h := hr_36
    refine exit_thenE ?_
    refine exit_thenE ?_
    refine exit_here ?_
    refine exit_block ?_
    cases h
    exact ⟨_, u_37, hN_27 _ rfl, hS.weak ⟨od rfl, od rfl, od rfl, od rfl, od rfl, trivial⟩⟩
  have h := ite_f hb h
  refine wp_exit ?_
  refine exit_thenE ?_
  cases h
  obtain rfl := hL_27 _ rfl
  have h := hr_29
  refine exit_thenE ?_
  refine exit_here ?_
  refine et ?_
  refine ws ?_
  have hS := st_boxR 1 0 7 hS rfl rfl rfl
  refine st_reg mixed (by kernel_rfl) hS ?_
  refine cg (sp_loadBoxR tyR31_w (od rfl)) ?_
  refine cg (sp_assign (od rfl)) ?_
  refine sn fun a w hS => ?_
  refine et ?_
  refine wp_ret ?_
  have hS := st_drop 1 hS
  have hS := hS.weak (Δ := [(3, isA (α := S_api_Roster) p0), (6, Pr.is u_30), (9, isV (α := List Int) v_5), (12, isV (α := Bool) s_26.1), (42, isV (α := Bool) s_26.1), (89, Pr.is u_30)]) ⟨od rfl, odOS rfl, od rfl, od rfl, od rfl, odOS rfl, trivial⟩
  have hS0 := hS
  have hS := st_freeze 0 6 hS rfl rfl
  have hS := st_also (t := 6) (q := 89) hS0 hS rfl rfl rfl
  cases h
  exact st_ret hS (run_results1 Tryz.results44 a w) (hS.get rfl)

theorem f41_ok {fuel : Nat} {p0 : S_api_Roster} {p1 : Int} {p2 : ((List Int) → (List Int) → Option Int)} {r : (List Int) × Bool} (h : M.f41 fuel p0 p1 p2 = some r) : CallOK Tryz.prog 41 [isV p0, isV p1, isV p2] (isTup [isV r.1, isV r.2]) := by
  unfold M.f41 at h
  refine callS_of Tryz.func41 rfl Tryz.ntmps41 rfl fun F0 w0 a hS => ?_
  refine ws ?_
  refine st_reg mixed (by kernel_rfl) hS ?_
  refine cg (sp_box (od rfl)) ?_
  refine cg (sp_assign (odnil (α := Int))) ?_
  refine cg (sp_assign (odb)) ?_
  refine sn fun a w hS => ?_
  refine et ?_
  refine ws ?_
  refine st_reg mixed (by kernel_rfl) hS ?_
  refine cg (sp_assign (φ := isV (⟨[]⟩ : NL Int)) odnilNL) ?_
  refine sn fun a w hS => ?_
  refine et ?_
  refine ws ?_
  refine ws ?_
  obtain ⟨v_1, e_2, h⟩ := bind_some h
  refine st_reg mixed (by kernel_rfl) hS ?_
  refine cg (sp_load ty34 (od rfl)) ?_
  refine mv rfl ?_
  refine mv rfl ?_
  refine cg (sp_call en44 (f44_ok e_2) ⟨od rfl, od rfl, od rfl, trivial⟩) ?_
  refine cg (sp_len Tryz.underlying31 (od rfl)) ?_
  refine cg (sp_move (odi)) ?_
  refine sn fun a w hS => ?_
  refine et ?_
  refine wp_block ?_
  obtain ⟨o_6, e_7, hr_8⟩ := bind_some h
  refine c_loop (fun K a w => ∃ k i_3 s_5, K = k + 1 ∧ ForT _ _ _ o_6 k i_3 s_5 ∧ St 45 F0 [] [(2, isV (α := ((List Int) → (List Int) → Option Int)) p2), (3, isA (α := S_api_Roster) p0), (8, isV (α := NL Int) s_5), (14, isV (α := List (NL Int)) v_1), (15, isV (α := Int) (v_1.length : Int)), (16, isV (α := Int) i_3)] w0 a w) ?_ ?_ ⟨_, _, _, rfl, fors_init e_7, hS.weak ⟨od rfl, od rfl, od rfl, od rfl, od rfl, od rfl, trivial⟩⟩
  · rintro a w ⟨_, _, _, hk, _⟩; cases hk
  rintro K a w ⟨k_6, i_3, s_5, hk, hF_6, hS⟩
  obtain rfl := Nat.succ.inj hk
  refine ws ?_
  refine st_reg mixed (by kernel_rfl) hS ?_
  refine cg (sp_lss (od rfl) (od rfl)) ?_
  refine sn fun a w hS => ?_
  refine et ?_
  refine ws ?_
  refine st_cond hS rfl (fun hb => ?_) (fun hb => ?_)
  · refine wp_skip ?_
    refine et ?_
    obtain ⟨k_6, s', rfl, h, hF_6, hw_6⟩ := fors_more hF_6 hb
    refine ws ?_
    refine wp_block ?_
    refine ws ?_
    obtain ⟨v_9, e_10, h⟩ := bind_some h
    refine st_reg mixed (by kernel_rfl) hS ?_
    refine mv rfl ?_
    refine cg (sp_indexAddr sl100031 (od rfl) (od rfl) e_10) ?_
    refine cg (sp_load ty100039 (od rfl)) ?_
    refine cg (sp_assign (od rfl)) ?_
    refine cg (sp_assign (od rfl)) ?_
    refine sn fun a w hS => ?_
    refine et ?_
    refine ws ?_
    obtain ⟨v_11, e_12, h⟩ := bind_some h
    obtain ⟨v_13, e_14, h⟩ := bind_some h
    obtain ⟨v_15, e_16, h⟩ := bind_some h
    refine st_reg mixed (by kernel_rfl) hS ?_
    refine mv rfl ?_
    refine cg (sp_neqNL Tryz.underlying39 (od rfl)) ?_
    refine mv rfl ?_
    refine sc (sgT rfl fun hG => sp_load ty34 (od rfl)) ?_
    refine sc (sgT rfl fun hG => sp_move (od rfl)) ?_
    refine sc (sgT rfl fun hG => sp_call en36 (f36_ok (guard_some e_12 hG)) ⟨odw rfl hG, odw rfl hG, trivial⟩) ?_
    refine sc (sgT rfl fun hG => sp_call en34 (f34_ok (guard_some e_14 hG)) ⟨odw rfl hG, trivial⟩) ?_
    refine cg (sp_pickAnd (od rfl) fun hg => odw rfl hg) ?_
    refine mv rfl ?_
    refine sc (sgT rfl fun hG => sp_move (od rfl)) ?_
    refine sc (sgT rfl fun hG => sp_eqlNL Tryz.underlying39 (odw rfl hG)) ?_
    refine sc (sgT rfl fun hG => sp_move (odw rfl hG)) ?_
    refine sc (sgwF rfl fun hG => sp_move (od rfl)) ?_
    refine sc (sgwF rfl fun hG => sp_move (od rfl)) ?_
    refine sc (sgwF rfl fun hG => sp_move (od rfl)) ?_
    refine sc (sgwF rfl fun hG => sp_callV (x := (v_9.l, s_5.l)) (y := v_15) (od_fn74 (odw rfl hG)) ⟨odNLw rfl hG, odNLw rfl hG, trivial⟩ (guard_some e_16 hG)) ?_
    refine sc (sgwF rfl fun hG => sp_lss (odw rfl hG) (odi)) ?_
    refine sc (sgT rfl fun hG => sp_pickOr (odw rfl hG) fun hg => odw rfl (and_mk hG (not_t hg))) ?_
    refine cg (sp_pickAnd (od rfl) fun hg => odw rfl hg) ?_
    refine sn fun a w hS => ?_
    refine et ?_
    obtain ⟨y_18, hj_17, h⟩ := bind_some h
    refine wp_mono (Q := fun e a w => e = Exit.normal ∧ St 45 F0 [] [(2, isV (α := ((List Int) → (List Int) → Option Int)) p2), (3, isA (α := S_api_Roster) p0), (8, isV (α := NL Int) y_18), (14, isV (α := List (NL Int)) v_1), (15, isV (α := Int) (v_1.length : Int)), (16, isV (α := Int) i_3)] w0 a w) ?_ ?_
    · refine st_cond hS rfl (fun hb => ?_) (fun hb => ?_)
      · have h := ite_t hb hj_17
        refine st_reg mixed (by kernel_rfl) hS ?_
        refine mv rfl ?_
        refine cg (sp_assign (od rfl)) ?_
        refine sn fun a w hS => ?_
        cases h
        exact ⟨rfl, hS.weak ⟨od rfl, od rfl, od rfl, od rfl, od rfl, od rfl, trivial⟩⟩
      have h := ite_f hb hj_17
      refine wp_skip ?_
      cases h
      exact ⟨rfl, hS.weak ⟨od rfl, od rfl, od rfl, od rfl, od rfl, od rfl, trivial⟩⟩
    rintro e a w ⟨rfl, hS⟩
    refine exit_block ?_
    refine et ?_
    refine st_reg mixed (by kernel_rfl) hS ?_
    refine cg (sp_add (od rfl) (odi)) ?_
    refine mv rfl ?_
    refine sn fun a w hS => ?_
    cases h
    exact ⟨k_6, _, _, rfl, hF_6, hS.weak ⟨od rfl, od rfl, od rfl, od rfl, od rfl, od (congrArg (fun z => some (isV (α := Int) z)) hw_6), trivial⟩⟩
  refine wp_exit ?_
  obtain rfl := (fors_done hF_6 hb).symm
  have h := hr_8
  refine exit_thenE ?_
  refine exit_thenE ?_
  refine exit_here ?_
  refine et ?_
  refine ws ?_
  refine st_reg mixed (by kernel_rfl) hS ?_
  refine mv rfl ?_
  refine mv rfl ?_
  refine cg (sp_neqNL Tryz.underlying39 (od rfl)) ?_
  refine cg (sp_assign (od rfl)) ?_
  refine cg (sp_assign (od rfl)) ?_
  refine sn fun a w hS => ?_
  refine et ?_
  refine wp_ret ?_
  have hS := hS.weak (Δ := [(6, isV (α := List Int) s_5.l), (7, isV (α := Bool) (!s_5.l.isEmpty))]) ⟨odNL rfl, od rfl, trivial⟩
  cases h
  exact st_ret hS (run_results2 Tryz.results41 a w) (⟨_, rfl, hS.get rfl, hS.get rfl, trivial⟩)

theorem f85_ok {p0 : List Int} {p1 : List Int} {c0 : ((List Int) → (List Int) → Option Int)} {r : Int} (h : M.f85 p0 p1 c0 = some r) : CallOK Tryz.prog 85 [isV p0, isV p1, isA c0] (isV r) := by
  unfold M.f85 at h
  refine callS_of Tryz.func85 rfl Tryz.ntmps85 rfl fun F0 w0 a hS => ?_
  refine ws ?_
  refine st_reg mixed (by kernel_rfl) hS ?_
  refine cg (sp_assign (odi)) ?_
  refine sn fun a w hS => ?_
  refine et ?_
  refine ws ?_
  obtain ⟨v_1, e_2, h⟩ := bind_some h
  obtain ⟨v_3, e_4, h⟩ := bind_some h
  obtain ⟨v_5, e_6, h⟩ := bind_some h
  refine st_reg mixed (by kernel_rfl) hS ?_
  refine mv rfl ?_
  refine cg (sp_len Tryz.underlying39 (od rfl)) ?_
  refine mv rfl ?_
  refine cg (sp_len Tryz.underlying39 (od rfl)) ?_
  refine cg (sp_call en83 (f83_ok e_2) ⟨od rfl, od rfl, trivial⟩) ?_
  refine cg (sp_load ty74 (od rfl)) ?_
  refine mv rfl ?_
  refine mv rfl ?_
  refine cg (sp_callV (x := (p0, p1)) (y := v_3) (od_fn74 (od rfl)) ⟨od rfl, od rfl, trivial⟩ e_4) ?_
  refine cg (sp_buildSlice [.tmp 10, .tmp 14] ([v_1, v_3] : List Int) sl39 ze3 rfl rfl rfl rfl ⟨od rfl, od rfl, trivial⟩) ?_
  refine cg (sp_call en82 (f82_ok e_6) ⟨od rfl, trivial⟩) ?_
  refine cg (sp_assign (od rfl)) ?_
  refine sn fun a w hS => ?_
  refine et ?_
  refine wp_ret ?_
  cases h
  exact st_ret hS (run_results1 Tryz.results85 a w) (hS.get rfl)

theorem f43_ok {p0 : S_api_Roster} {r : ((List Int) → (List Int) → Option Int)} (h : M.f43 p0 = some r) : CallOK Tryz.prog 43 [isV p0] (isV r) := by
  unfold M.f43 at h
  refine callS_of Tryz.func43 rfl Tryz.ntmps43 rfl fun F0 w0 a hS => ?_
  refine ws ?_
  refine st_reg mixed (by kernel_rfl) hS ?_
  refine cg (sp_box (od rfl)) ?_
  refine cg (sp_assign (φ := isV ((fun _ _ => none) : ((List Int) → (List Int) → Option Int))) (odc fun _ => (.inl ⟨rfl, fun _ => rfl⟩))) ?_
  refine sn fun a w hS => ?_
  refine et ?_
  refine ws ?_
  obtain ⟨v_1, e_2, h⟩ := bind_some h
  refine l_start ?_
  refine s_c hS (sg (sp_load ty34 (od rfl))) rfl fun a w hS hM => ?_
  refine s_c hS (sg (sp_call en42 (f42_ok e_2) ⟨od rfl, trivial⟩)) rfl fun a w hS hM => ?_
  refine s_allocStore ze74 hS (od rfl) (fun k hk => by cases hk; rfl) rfl fun a w hS hM => ?_
  refine l_end ?_
  refine et ?_
  refine ws ?_
  refine st_reg mixed (by kernel_rfl) hS ?_
  refine cg (mk_fn74 (f := (fun x0 x1 => M.f85 x0 x1 v_1)) (κs := [isA (α := ((List Int) → (List Int) → Option Int)) v_1]) ⟨fun _ _ _ _ h => h, trivial⟩ en85 ⟨od rfl, trivial⟩ (fun _ _ h => f85_ok h)) ?_
  refine cg (sp_assign (od rfl)) ?_
  refine sn fun a w hS => ?_
  refine et ?_
  refine wp_ret ?_
  cases h
  exact st_ret hS (run_results1 Tryz.results43 a w) (hS.get rfl)

theorem f16_ok {fuel : Nat} {p0 : S_api_Roster} {p1 : Int} {r : (List Int) × Int} (h : M.f16 fuel p0 p1 = some r) : CallOK Tryz.prog 16 [isV p0, isV p1] (isTup [isV r.1, isV r.2]) := by
  unfold M.f16 at h
  refine callS_of Tryz.func16 rfl Tryz.ntmps16 rfl fun F0 w0 a hS => ?_
  refine ws ?_
  refine st_reg mixed (by kernel_rfl) hS ?_
  refine cg (sp_box (od rfl)) ?_
  refine cg (sp_assign (odnil (α := Int))) ?_
  refine cg (sp_assign (odi)) ?_
  refine sn fun a w hS => ?_
  refine et ?_
  refine ws ?_
  refine ws ?_
  obtain ⟨v_1, e_2, h⟩ := bind_some h
  refine st_reg mixed (by kernel_rfl) hS ?_
  refine cg (sp_load ty34 (od rfl)) ?_
  refine mv rfl ?_
  refine cg (sp_call en40 (f40_ok e_2) ⟨od rfl, od rfl, trivial⟩) ?_
  refine cg (sp_assign (od rfl)) ?_
  refine sn fun a w hS => ?_
  refine et ?_
  refine ws ?_
  refine st_reg mixed (by kernel_rfl) hS ?_
  refine mv rfl ?_
  refine cg (sp_neq (od rfl) (odi)) ?_
  refine sn fun a w hS => ?_
  refine et ?_
  refine st_cond hS rfl (fun hb => ?_) (fun hb => ?_)
  · have h := ite_t hb h
    refine ws ?_
    refine st_reg mixed (by kernel_rfl) hS ?_
    refine mv rfl ?_
    refine cg (sp_assign (odnil (α := Int))) ?_
    refine cg (sp_assign (od rfl)) ?_
    refine sn fun a w hS => ?_
    refine et ?_
    refine wp_ret ?_
    refine exit_thenR ?_
    cases h
    exact st_ret hS (run_results2 Tryz.results16 a w) (⟨_, rfl, hS.get rfl, hS.get rfl, trivial⟩)
  have h := ite_f hb h
  refine wp_skip ?_
  refine et ?_
  refine ws ?_
  obtain ⟨v_3, e_4, h⟩ := bind_some h
  obtain ⟨v_5, e_6, h⟩ := bind_some h
  refine st_reg mixed (by kernel_rfl) hS ?_
  refine cg (sp_load ty34 (od rfl)) ?_
  refine mv rfl ?_
  refine cg (sp_load ty34 (od rfl)) ?_
  refine cg (sp_call en42 (f42_ok e_4) ⟨od rfl, trivial⟩) ?_
  refine cg (sp_call en41 (f41_ok e_6) ⟨od rfl, od rfl, od rfl, trivial⟩) ?_
  refine mv rfl ?_
  refine cg (sp_extract (od rfl) rfl) ?_
  refine cg (sp_extract (od rfl) rfl) ?_
  refine cg (sp_assign (od rfl)) ?_
  refine cg (sp_assign (od rfl)) ?_
  refine sn fun a w hS => ?_
  refine et ?_
  refine ws ?_
  refine ws ?_
  refine st_reg mixed (by kernel_rfl) hS ?_
  refine mv rfl ?_
  refine cg (sp_not (od rfl)) ?_
  refine sn fun a w hS => ?_
  refine et ?_
  refine st_cond hS rfl (fun hb => ?_) (fun hb => ?_)
  · have h := ite_t hb h
    refine ws ?_
    refine st_reg mixed (by kernel_rfl) hS ?_
    refine cg (sp_assign (odnil (α := Int))) ?_
    refine cg (sp_assign (odi)) ?_
    refine sn fun a w hS => ?_
    refine et ?_
    refine wp_ret ?_
    refine exit_thenR ?_
    cases h
    exact st_ret hS (run_results2 Tryz.results16 a w) (⟨_, rfl, hS.get rfl, hS.get rfl, trivial⟩)
  have h := ite_f hb h
  refine wp_skip ?_
  refine et ?_
  refine ws ?_
  obtain ⟨q_7, e_8, h⟩ := bind_some h
  refine l_start ?_
  refine s_c hS (sg (sp_fieldAddr fd34_4 (od rfl))) rfl fun a w hS hM => ?_
  refine s_c hS (sg (sp_load ty32 (od rfl))) rfl fun a w hS hM => ?_
  refine s_c hS (sg (sp_len Tryz.underlying32 (od rfl))) rfl fun a w hS hM => ?_
  refine s_make sl39 ze3 zi3 rfl hS (od rfl) e_8 rfl fun a w u_9 hS hM => ?_
  have hS : St _ F0 [Item.sl (α := Int) 3 u_9 q_7] _ w0 _ _ := hS
  refine s_c hS (sg (sp_assign (od rfl))) rfl fun a w hS hM => ?_
  refine l_end ?_
  refine et ?_
  refine ws ?_
  refine ws ?_
  obtain ⟨v_10, e_11, h⟩ := bind_some h
  obtain ⟨v_12, e_13, h⟩ := bind_some h
  refine st_reg mixed (by kernel_rfl) hS ?_
  refine cg (sp_load ty34 (od rfl)) ?_
  refine mv rfl ?_
  refine cg (sp_load ty34 (od rfl)) ?_
  refine cg (sp_call en42 (f42_ok e_11) ⟨od rfl, trivial⟩) ?_
  refine cg (sp_call en44 (f44_ok e_13) ⟨od rfl, od rfl, od rfl, trivial⟩) ?_
  refine cg (sp_len Tryz.underlying31 (od rfl)) ?_
  refine cg (sp_move (odi)) ?_
  refine sn fun a w hS => ?_
  refine et ?_
  refine wp_block ?_
  obtain ⟨o_17, e_18, hr_19⟩ := bind_some h
  refine c_loop (fun K a w => ∃ k i_14 s_16, K = k + 1 ∧ ForT _ _ _ o_17 k i_14 s_16 ∧ St 72 F0 [Item.sl (α := Int) 3 u_9 s_16] [(1, isV (α := Int) p1), (2, isA (α := S_api_Roster) p0), (7, isV (α := List Int) v_5.1), (9, Pr.is u_9), (36, isV (α := List (NL Int)) v_12), (37, isV (α := Int) (v_12.length : Int)), (38, isV (α := Int) i_14)] w0 a w) ?_ ?_ ⟨_, _, _, rfl, fors_init e_18, hS.weak ⟨od rfl, od rfl, od rfl, od rfl, od rfl, od rfl, od rfl, trivial⟩⟩
  · rintro a w ⟨_, _, _, hk, _⟩; cases hk
  rintro K a w ⟨k_17, i_14, s_16, hk, hF_17, hS⟩
  obtain rfl := Nat.succ.inj hk
  refine ws ?_
  refine st_reg mixed (by kernel_rfl) hS ?_
  refine cg (sp_lss (od rfl) (od rfl)) ?_
  refine sn fun a w hS => ?_
  refine et ?_
  refine ws ?_
  refine st_cond hS rfl (fun hb => ?_) (fun hb => ?_)
  · refine wp_skip ?_
    refine et ?_
    obtain ⟨k_17, s', rfl, h, hF_17, hw_17⟩ := fors_more hF_17 hb
    refine ws ?_
    refine wp_block ?_
    refine ws ?_
    obtain ⟨v_20, e_21, h⟩ := bind_some h
    refine st_reg mixed (by kernel_rfl) hS ?_
    refine mv rfl ?_
    refine cg (sp_indexAddr sl100031 (od rfl) (od rfl) e_21) ?_
    refine cg (sp_load ty100039 (od rfl)) ?_
    refine cg (sp_assign (od rfl)) ?_
    refine cg (sp_assign (od rfl)) ?_
    refine sn fun a w hS => ?_
    refine et ?_
    refine ws ?_
    refine ws ?_
    obtain ⟨v_22, e_23, h⟩ := bind_some h
    refine st_reg mixed (by kernel_rfl) hS ?_
    refine cg (sp_fieldAddr fd34_4 (od rfl)) ?_
    refine cg (sp_load ty32 (od rfl)) ?_
    refine mv rfl ?_
    refine cg (sp_indexAddr sl32 (od rfl) (od rfl) e_23) ?_
    refine cg (sp_fieldAddr fd23_0 (od rfl)) ?_
    refine cg (sp_load ty3 (od rfl)) ?_
    refine mv rfl ?_
    refine cg (sp_neq (od rfl) (od rfl)) ?_
    refine sn fun a w hS => ?_
    refine et ?_
    refine st_cond hS rfl (fun hb => ?_) (fun hb => ?_)
    · have h := ite_t hb h
      refine wp_exit ?_
      refine exit_thenE ?_
      refine exit_here ?_
      refine et ?_
      refine st_reg mixed (by kernel_rfl) hS ?_
      refine cg (sp_add (od rfl) (odi)) ?_
      refine mv rfl ?_
      refine sn fun a w hS => ?_
      cases h
      exact ⟨k_17, _, _, rfl, hF_17, hS.weak ⟨od rfl, od rfl, od rfl, od rfl, od rfl, od rfl, od (congrArg (fun z => some (isV (α := Int) z)) hw_17), trivial⟩⟩
    have h := ite_f hb h
    refine wp_skip ?_
    refine et ?_
    refine ws ?_
    obtain ⟨v_24, e_25, h⟩ := bind_some h
    obtain ⟨v_26, e_27, h⟩ := bind_some h
    obtain ⟨z_28, e_29, h⟩ := bind_some h
    refine l_start ?_
    refine s_c hS (sg (sp_move (od rfl))) rfl fun a w hS hM => ?_
    refine s_c hS (sg (sp_move (od rfl))) rfl fun a w hS hM => ?_
    refine s_c hS (sg (sp_load ty34 (od rfl))) rfl fun a w hS hM => ?_
    refine s_c hS (sg (sp_move (od rfl))) rfl fun a w hS hM => ?_
    refine s_c hS (sg (sp_call en45 (f45_ok e_25) ⟨od rfl, od rfl, trivial⟩)) rfl fun a w hS hM => ?_
    have hS := st_os 0 9 hS rfl rfl
    have hS := st_os 0 51 hS rfl rfl
    refine s_c hS (sg (sp_indexAddrOS sl39 (od rfl) (od rfl) e_27)) rfl fun a w hS hM => ?_
    refine s_storeEA (k := 0) (j := i_14) (Δ := [(1, isV (α := Int) p1), (2, isA (α := S_api_Roster) p0), (7, isV (α := List Int) v_5.1), (9, Pr.is u_9), (10, isV (α := Int) i_14), (11, isV (α := NL Int) v_20), (36, isV (α := List (NL Int)) v_12), (37, isV (α := Int) (v_12.length : Int)), (38, isV (α := Int) i_14), (55, isV (α := Int) v_24), (56, isEP Int u_9 i_14.toNat)]) ty3 hS rfl ⟨od rfl, od rfl, od rfl, odOS rfl, od rfl, od rfl, od rfl, od rfl, od rfl, od rfl, odEP rfl, trivial⟩ ⟨fun _ _ _ _ h => h, fun _ _ _ _ h => h, fun _ _ _ _ h => h, fun _ _ _ _ h => h, fun _ _ _ _ h => h, fun _ _ _ _ h => h, fun _ _ _ _ h => h, fun _ _ _ _ h => h, fun _ _ _ _ h => h, fun _ _ _ _ h => h, fun _ _ _ _ h => h, trivial⟩ (odEP rfl) (od rfl) e_29 fun w hS hM => ?_
    have hS : St _ F0 [Item.sl (α := Int) 3 u_9 z_28] _ w0 _ _ := hS
    refine l_end ?_
    refine et ?_
    refine ws ?_
    refine st_reg mixed (by kernel_rfl) hS ?_
    refine mv rfl ?_
    refine cg (sp_neqNL Tryz.underlying39 (od rfl)) ?_
    refine sn fun a w hS => ?_
    refine et ?_
    obtain ⟨y_31, hj_30, h⟩ := bind_some h
    refine wp_mono (Q := fun e a w => e = Exit.normal ∧ St 72 F0 [Item.sl (α := Int) 3 u_9 y_31] [(1, isV (α := Int) p1), (2, isA (α := S_api_Roster) p0), (7, isV (α := List Int) v_5.1), (9, Pr.is u_9), (36, isV (α := List (NL Int)) v_12), (37, isV (α := Int) (v_12.length : Int)), (38, isV (α := Int) i_14)] w0 a w) ?_ ?_
    · refine st_cond hS rfl (fun hb => ?_) (fun hb => ?_)
      · have h := ite_t hb hj_30
        have hS := st_os 0 9 hS rfl rfl
        obtain ⟨v_32, e_33, h⟩ := bind_some h
        obtain ⟨v_34, e_35, h⟩ := bind_some h
        obtain ⟨v_36, e_37, h⟩ := bind_some h
        obtain ⟨z_38, e_39, h⟩ := bind_some h
        refine st_float mixed [0, 0, 0, 0, 0, 0, 0, 0, 0, 0, 0, 2] (by kernel_rfl) (by kernel_rfl) hS ?_
        refine sfA (sg (sp_move (od rfl))) ?_
        refine sfA (sg (sp_move (od rfl))) ?_
        refine sfA (sg (sp_move (od rfl))) ?_
        refine sfA (sg (sp_move (od rfl))) ?_
        refine sfA (sg (sp_indexAddrOS sl39 (od rfl) (od rfl) e_33)) ?_
        refine sfA (sg (sp_loadEA ty3 (od rfl))) ?_
        refine sfA (sg (sp_load ty34 (od rfl))) ?_
        refine sfA (sg (sp_move (od rfl))) ?_
        refine sfA (sg (sp_call en45 (f45_ok e_35) ⟨od rfl, odNL rfl, trivial⟩)) ?_
        refine sfA (sg (sp_min (od rfl) (od rfl))) ?_
        refine sfA (sg (sp_indexAddrOS sl39 (od rfl) (od rfl) e_37)) ?_
        refine sfT ?_
        refine sfN fun c a w hS hC => ?_
        refine ls ?_
        refine s_storeEA (k := 0) (j := i_14) (Δ := [(1, isV (α := Int) p1), (2, isA (α := S_api_Roster) p0), (7, isV (α := List Int) v_5.1), (9, Pr.is u_9), (36, isV (α := List (NL Int)) v_12), (37, isV (α := Int) (v_12.length : Int)), (38, isV (α := Int) i_14), (68, isV (α := Int) (imin v_32 v_34)), (69, isEP Int u_9 i_14.toNat)]) ty3 hS rfl ⟨od rfl, od rfl, od rfl, odOS rfl, od rfl, od rfl, od rfl, od rfl, odEP rfl, trivial⟩ ⟨fun _ _ _ _ h => h, fun _ _ _ _ h => h, fun _ _ _ _ h => h, fun _ _ _ _ h => h, fun _ _ _ _ h => h, fun _ _ _ _ h => h, fun _ _ _ _ h => h, fun _ _ _ _ h => h, fun _ _ _ _ h => h, trivial⟩ (odEP rfl) (od rfl) e_39 fun w hS hM => ?_
        have hS : St _ F0 [Item.sl (α := Int) 3 u_9 z_38] _ w0 _ _ := hS
        have hC := Mem.le_trans hC hM
        refine s_next hC ?_
        refine s_done ?_
        cases h
        exact ⟨rfl, hS.weak ⟨od rfl, od rfl, od rfl, od rfl, od rfl, od rfl, od rfl, trivial⟩⟩
      have h := ite_f hb hj_30
      refine wp_skip ?_
      cases h
      exact ⟨rfl, hS.weak ⟨od rfl, od rfl, od rfl, od rfl, od rfl, od rfl, od rfl, trivial⟩⟩
    rintro e a w ⟨rfl, hS⟩
    refine exit_block ?_
    refine et ?_
    refine st_reg mixed (by kernel_rfl) hS ?_
    refine cg (sp_add (od rfl) (odi)) ?_
    refine mv rfl ?_
    refine sn fun a w hS => ?_
    cases h
    exact ⟨k_17, _, _, rfl, hF_17, hS.weak ⟨od rfl, od rfl, od rfl, od rfl, od rfl, od rfl, od (congrArg (fun z => some (isV (α := Int) z)) hw_17), trivial⟩⟩
  refine wp_exit ?_
  obtain rfl := (fors_done hF_17 hb).symm
  have h := hr_19
  refine exit_thenE ?_
  refine exit_thenE ?_
  refine exit_here ?_
  refine et ?_
  refine ws ?_
  refine st_reg mixed (by kernel_rfl) hS ?_
  refine mv rfl ?_
  refine cg (sp_assign (od rfl)) ?_
  refine cg (sp_assign (odi)) ?_
  refine sn fun a w hS => ?_
  refine et ?_
  refine wp_ret ?_
  have hS0 := hS
  have hS := st_freeze 0 4 hS rfl rfl
  have hS := st_also (t := 4) (q := 9) hS0 hS rfl rfl rfl
  have hS := st_also (t := 4) (q := 71) hS0 hS rfl rfl rfl
  cases h
  exact st_ret hS (run_results2 Tryz.results16 a w) (⟨_, rfl, hS.get rfl, hS.get rfl, trivial⟩)

end Go.Proofs.YtnnhmgcigoiceaaGreatDoor
