/-
  What is proved: each Go function named here returns what its model tells, and changes nothing that was there; where the model tells something.
-/
import Derived.Test.YtjlagmcdoobimaaGreatDoorWalkB1
import Derived.Test.YtjlagmcdoobimaaGreatDoorModelB2
set_option linter.unusedVariables false
set_option maxRecDepth 100000
namespace Go.Proofs.YtjlagmcdoobimaaGreatDoor
open Go Go.RowKit Go.Proofs.YtjlagmcdoobimaaGreatDoor.Wh

theorem f20_ok {p0 : S_api_Market} {p1 : List Int} {p2 : Int} {p3 : Int} {p4 : Int} {p5 : List Int} {r : Int} (h : M.f20 p0 p1 p2 p3 p4 p5 = some r) : CallOK Tryz.prog 20 [isV p0, isV p1, isV p2, isV p3, isV p4, isV p5] (isV r) := by
  unfold M.f20 at h
  refine callS_of Tryz.func20 rfl Tryz.ntmps20 rfl fun F0 w0 a hS => ?_
  refine ws ?_
  refine st_reg mixed (by kernel_rfl) hS ?_
  refine cg (sp_box (od rfl)) ?_
  refine cg (sp_assign (odi)) ?_
  refine sn fun a w hS => ?_
  refine et ?_
  refine ws ?_
  refine ws ?_
  obtain ⟨v_1, e_2, h⟩ := bind_some h
  refine st_reg mixed (by kernel_rfl) hS ?_
  refine cg (sp_load ty33 (od rfl)) ?_
  refine mv rfl ?_
  refine mv rfl ?_
  refine mv rfl ?_
  refine cg (sp_buildSlice [.tmp 20, .tmp 21] ([p2, p3] : List Int) sl37 ze3 rfl rfl rfl rfl ⟨od rfl, od rfl, trivial⟩) ?_
  refine mv rfl ?_
  refine cg (sp_buildSlice [.tmp 23] ([p4] : List Int) sl37 ze3 rfl rfl rfl rfl ⟨od rfl, trivial⟩) ?_
  refine cg (bd72_01 (od rfl) (od rfl)) ?_
  refine cg (sp_call en29 (f29_ok e_2) ⟨od rfl, od rfl, od rfl, trivial⟩) ?_
  refine cg (sp_assign (od rfl)) ?_
  refine sn fun a w hS => ?_
  refine et ?_
  refine ws ?_
  refine st_reg mixed (by kernel_rfl) hS ?_
  refine mv rfl ?_
  refine cg (sp_neq (od rfl) (odi)) ?_
  refine sn fun a w hS => ?_
  refine et ?_
  refine st_cond hS rfl (fun hb => ?_) (fun hb => ?_)
  · have h := ite_t hb h
    refine ws ?_
    refine st_reg mixed (by kernel_rfl) hS ?_
    refine mv rfl ?_
    refine cg (sp_assign (od rfl)) ?_
    refine sn fun a w hS => ?_
    refine et ?_
    refine wp_ret ?_
    refine exit_thenR ?_
    cases h
    exact st_ret hS (run_results1 Tryz.results20 a w) (hS.get rfl)
  have h := ite_f hb h
  refine wp_skip ?_
  refine et ?_
  refine ws ?_
  refine ws ?_
  obtain ⟨v_3, e_4, h⟩ := bind_some h
  obtain ⟨v_5, e_6, h⟩ := bind_some h
  refine st_reg mixed (by kernel_rfl) hS ?_
  refine mv rfl ?_
  refine cg (sp_len Tryz.underlying37 (od rfl)) ?_
  refine cg (sp_lss (od rfl) (odi)) ?_
  refine mv rfl ?_
  refine sc (sgF rfl fun hG => sp_move (od rfl)) ?_
  refine sc (sgF rfl fun hG => sp_len Tryz.underlying37 (odw rfl hG)) ?_
  refine sc (sgF rfl fun hG => sp_gtr (odw rfl hG) (odi)) ?_
  refine cg (sp_pickOr (od rfl) fun hg => odw rfl (not_t hg)) ?_
  refine mv rfl ?_
  refine sc (sgF rfl fun hG => sp_move (od rfl)) ?_
  refine sc (sgF rfl fun hG => sp_indexAddr sl37 (odw rfl hG) (odi) (guard_some e_4 hG)) ?_
  refine sc (sgF rfl fun hG => sp_load ty3 (odw rfl hG)) ?_
  refine sc (sgF rfl fun hG => sp_move (od rfl)) ?_
  refine sc (sgF rfl fun hG => sp_neq (odw rfl hG) (odw rfl hG)) ?_
  refine cg (sp_pickOr (od rfl) fun hg => odw rfl (not_t hg)) ?_
  refine mv rfl ?_
  refine sc (sgF rfl fun hG => sp_move (od rfl)) ?_
  refine sc (sgF rfl fun hG => sp_move (od rfl)) ?_
  refine sc (sgF rfl fun hG => sp_len Tryz.underlying37 (odw rfl hG)) ?_
  refine sc (sgF rfl fun hG => sp_sub (odw rfl hG) (odi)) ?_
  refine sc (sgF rfl fun hG => sp_indexAddr sl37 (odw rfl hG) (odw rfl hG) (guard_some e_6 hG)) ?_
  refine sc (sgF rfl fun hG => sp_load ty3 (odw rfl hG)) ?_
  refine sc (sgF rfl fun hG => sp_move (od rfl)) ?_
  refine sc (sgF rfl fun hG => sp_neq (odw rfl hG) (odw rfl hG)) ?_
  refine cg (sp_pickOr (od rfl) fun hg => odw rfl (not_t hg)) ?_
  refine sn fun a w hS => ?_
  refine et ?_
  refine st_cond hS rfl (fun hb => ?_) (fun hb => ?_)
  · have h := ite_t hb h
    refine ws ?_
    refine st_reg mixed (by kernel_rfl) hS ?_
    refine cg (sp_assign (odi)) ?_
    refine sn fun a w hS => ?_
    refine et ?_
    refine wp_ret ?_
    refine exit_thenR ?_
    cases h
    exact st_ret hS (run_results1 Tryz.results20 a w) (hS.get rfl)
  have h := ite_f hb h
  refine wp_skip ?_
  refine et ?_
  refine ws ?_
  obtain ⟨v_7, e_8, h⟩ := bind_some h
  obtain ⟨v_9, e_10, h⟩ := bind_some h
  refine st_reg mixed (by kernel_rfl) hS ?_
  refine cg (sp_load ty33 (od rfl)) ?_
  refine mv rfl ?_
  refine cg (sp_call en31 (f31_ok e_8) ⟨od rfl, trivial⟩) ?_
  refine cg (sp_call en46 (callOK_tab (f46_ok e_10)) ⟨od rfl, od rfl, trivial⟩) ?_
  refine cg (sp_assign (od rfl)) ?_
  refine cg (sp_assign (odi)) ?_
  refine sn fun a w hS => ?_
  refine et ?_
  refine ws ?_
  refine ws ?_
  refine st_reg mixed (by kernel_rfl) hS ?_
  refine mv rfl ?_
  refine cg (sp_len Tryz.underlying37 (od rfl)) ?_
  refine cg (sp_move (odi)) ?_
  refine sn fun a w hS => ?_
  refine et ?_
  refine wp_block ?_
  obtain ⟨o_14, e_15, hr_16⟩ := bind_some h
  refine c_loop (fun K a w => ∃ k i_11 s_13, K = k + 1 ∧ ForI _ _ _ o_14 k i_11 s_13 ∧ St 93 F0 [] [(4, isV (α := Int) p4), (5, isV (α := List Int) p5), (6, isA (α := S_api_Market) p0), (14, isV (α := List (List Int)) v_9), (15, isV (α := Int) s_13), (59, isV (α := List Int) p5), (60, isV (α := Int) (p5.length : Int)), (61, isV (α := Int) i_11)] w0 a w) ?_ ?_ ⟨_, _, _, rfl, for_init e_15, hS.weak ⟨od rfl, od rfl, od rfl, od rfl, od rfl, od rfl, od rfl, od rfl, trivial⟩⟩
  · rintro a w ⟨_, _, _, hk, _⟩; cases hk
  rintro K a w ⟨k_14, i_11, s_13, hk, hF_14, hS⟩
  obtain rfl := Nat.succ.inj hk
  refine ws ?_
  refine st_reg mixed (by kernel_rfl) hS ?_
  refine cg (sp_lss (od rfl) (od rfl)) ?_
  refine sn fun a w hS => ?_
  refine et ?_
  refine ws ?_
  refine st_cond hS rfl (fun hb => ?_) (fun hb => ?_)
  · refine wp_skip ?_
    refine et ?_
    obtain ⟨k_14, o, rfl, h, hN_14, hL_14, hw_14⟩ := for_more hF_14 hb
    refine ws ?_
    refine wp_block ?_
    refine ws ?_
    obtain ⟨v_17, e_18, h⟩ := bind_some h
    refine st_reg mixed (by kernel_rfl) hS ?_
    refine mv rfl ?_
    refine cg (sp_indexAddr sl37 (od rfl) (od rfl) e_18) ?_
    refine cg (sp_load ty3 (od rfl)) ?_
    refine cg (sp_assign (od rfl)) ?_
    refine cg (sp_assign (od rfl)) ?_
    refine sn fun a w hS => ?_
    refine et ?_
    refine ws ?_
    refine ws ?_
    refine st_reg mixed (by kernel_rfl) hS ?_
    refine mv rfl ?_
    refine cg (sp_lss (od rfl) (odi)) ?_
    refine mv rfl ?_
    refine sc (sgF rfl fun hG => sp_move (od rfl)) ?_
    refine sc (sgF rfl fun hG => sp_fieldAddr fd33_0 (od rfl)) ?_
    refine sc (sgF rfl fun hG => sp_load ty3 (odw rfl hG)) ?_
    refine sc (sgF rfl fun hG => sp_geq (odw rfl hG) (odw rfl hG)) ?_
    refine cg (sp_pickOr (od rfl) fun hg => odw rfl (not_t hg)) ?_
    refine sn fun a w hS => ?_
    refine et ?_
    refine st_cond hS rfl (fun hb => ?_) (fun hb => ?_)
    · have h := ite_t hb h
      refine ws ?_
      refine st_reg mixed (by kernel_rfl) hS ?_
      refine cg (sp_assign (odi)) ?_
      refine sn fun a w hS => ?_
      refine et ?_
      refine wp_ret ?_
      refine exit_thenR ?_
      refine exit_blockR ?_
      refine exit_thenR ?_
      cases h
      obtain rfl := hL_14 _ rfl
      have h := (elim_leave hr_16)
      refine exit_thenR ?_
      refine exit_blockR ?_
      refine exit_thenR ?_
      cases h
      exact st_ret hS (run_results1 Tryz.results20 a w) (hS.get rfl)
    have h := ite_f hb h
    refine wp_skip ?_
    refine et ?_
    refine ws ?_
    refine st_reg mixed (by kernel_rfl) hS ?_
    refine mv rfl ?_
    refine cg (sp_gtr (od rfl) (odi)) ?_
    refine sn fun a w hS => ?_
    refine et ?_
    obtain ⟨y_20, hj_19, h⟩ := bind_some h
    refine wp_mono (Q := fun e a w => e = Exit.normal ∧ St 93 F0 [] [(4, isV (α := Int) p4), (5, isV (α := List Int) p5), (6, isA (α := S_api_Market) p0), (14, isV (α := List (List Int)) v_9), (15, isV (α := Int) y_20), (59, isV (α := List Int) p5), (60, isV (α := Int) (p5.length : Int)), (61, isV (α := Int) i_11)] w0 a w) ?_ ?_
    · refine st_cond hS rfl (fun hb => ?_) (fun hb => ?_)
      · have h := ite_t hb hj_19
        obtain ⟨v_21, e_22, h⟩ := bind_some h
        obtain ⟨v_23, e_24, h⟩ := bind_some h
        obtain ⟨v_25, e_26, h⟩ := bind_some h
        refine st_reg mixed (by kernel_rfl) hS ?_
        refine mv rfl ?_
        refine mv rfl ?_
        refine mv rfl ?_
        refine mv rfl ?_
        refine cg (sp_sub (od rfl) (odi)) ?_
        refine cg (sp_indexAddr sl37 (od rfl) (od rfl) e_22) ?_
        refine cg (sp_load ty3 (od rfl)) ?_
        refine cg (sp_indexAddr sl74 (od rfl) (od rfl) e_24) ?_
        refine cg (sp_load ty37 (od rfl)) ?_
        refine mv rfl ?_
        refine cg (sp_indexAddr sl37 (od rfl) (od rfl) e_26) ?_
        refine cg (sp_load ty3 (od rfl)) ?_
        refine cg (sp_add (od rfl) (od rfl)) ?_
        refine cg (sp_assign (od rfl)) ?_
        refine sn fun a w hS => ?_
        cases h
        exact ⟨rfl, hS.weak ⟨od rfl, od rfl, od rfl, od rfl, od rfl, od rfl, od rfl, od rfl, trivial⟩⟩
      have h := ite_f hb hj_19
      refine wp_skip ?_
      cases h
      exact ⟨rfl, hS.weak ⟨od rfl, od rfl, od rfl, od rfl, od rfl, od rfl, od rfl, od rfl, trivial⟩⟩
    rintro e a w ⟨rfl, hS⟩
    refine exit_block ?_
    refine et ?_
    refine st_reg mixed (by kernel_rfl) hS ?_
    refine cg (sp_add (od rfl) (odi)) ?_
    refine mv rfl ?_
    refine sn fun a w hS => ?_
    cases h
    exact ⟨k_14, _, _, rfl, hN_14 _ rfl, hS.weak ⟨od rfl, od rfl, od rfl, od rfl, od rfl, od rfl, od rfl, od (congrArg (fun z => some (isV (α := Int) z)) hw_14), trivial⟩⟩
  refine wp_exit ?_
  obtain rfl := for_done hF_14 hb
  have h := elim_again hr_16
  refine exit_thenE ?_
  refine exit_thenE ?_
  refine exit_here ?_
  refine et ?_
  refine ws ?_
  refine ws ?_
  refine st_reg mixed (by kernel_rfl) hS ?_
  refine mv rfl ?_
  refine mv rfl ?_
  refine cg (sp_gtr (od rfl) (od rfl)) ?_
  refine sn fun a w hS => ?_
  refine et ?_
  refine st_cond hS rfl (fun hb => ?_) (fun hb => ?_)
  · have h := ite_t hb h
    refine ws ?_
    refine st_reg mixed (by kernel_rfl) hS ?_
    refine cg (sp_assign (odi)) ?_
    refine sn fun a w hS => ?_
    refine et ?_
    refine wp_ret ?_
    refine exit_thenR ?_
    cases h
    exact st_ret hS (run_results1 Tryz.results20 a w) (hS.get rfl)
  have h := ite_f hb h
  refine wp_skip ?_
  refine et ?_
  refine ws ?_
  refine st_reg mixed (by kernel_rfl) hS ?_
  refine cg (sp_assign (odi)) ?_
  refine sn fun a w hS => ?_
  refine et ?_
  refine wp_ret ?_
  cases h
  exact st_ret hS (run_results1 Tryz.results20 a w) (hS.get rfl)

theorem f4_ok {fuel : Nat}  {r : Bool} (h : M.f4 fuel  = some r) : CallOK Tryz.prog 4 [] (isV r) := by
  unfold M.f4 at h
  refine callS_of Tryz.func4 rfl Tryz.ntmps4 rfl fun F0 w0 a hS => ?_
  refine ws ?_
  refine st_reg mixed (by kernel_rfl) hS ?_
  refine cg (sp_assign (odb)) ?_
  refine sn fun a w hS => ?_
  refine et ?_
  refine ws ?_
  obtain ⟨v_1, e_2, h⟩ := bind_some h
  refine l_start ?_
  refine s_c hS (sg (sp_call en9 (f9_ok e_2) trivial)) rfl fun a w hS hM => ?_
  refine s_allocStore ze33 hS (od rfl) (fun k hk => by cases hk; rfl) rfl fun a w hS hM => ?_
  refine l_end ?_
  refine et ?_
  refine ws ?_
  obtain ⟨v_3, e_4, h⟩ := bind_some h
  refine st_reg mixed (by kernel_rfl) hS ?_
  refine cg (sp_load ty33 (od rfl)) ?_
  refine cg (sp_buildSlice [.const (.int .i64 (0)), .const (.int .i64 (1))] ([0, 1] : List Int) sl37 ze3 rfl rfl rfl rfl ⟨odi, odi, trivial⟩) ?_
  refine cg (sp_call en10 (f10_ok e_4) ⟨od rfl, od rfl, odi, odi, trivial⟩) ?_
  refine mv rfl ?_
  refine cg (sp_extract (od rfl) rfl) ?_
  refine cg (sp_extract (od rfl) rfl) ?_
  refine cg (sp_extract (od rfl) rfl) ?_
  refine cg (sp_assign (od rfl)) ?_
  refine cg (sp_assign (od rfl)) ?_
  refine cg (sp_assign (od rfl)) ?_
  refine sn fun a w hS => ?_
  refine et ?_
  refine ws ?_
  obtain ⟨v_5, e_6, h⟩ := bind_some h
  refine st_reg mixed (by kernel_rfl) hS ?_
  refine cg (sp_load ty33 (od rfl)) ?_
  refine cg (sp_call en11 (f11_ok e_6) ⟨od rfl, odi, odi, odi, trivial⟩) ?_
  refine mv rfl ?_
  refine cg (sp_extract (od rfl) rfl) ?_
  refine cg (sp_extract (od rfl) rfl) ?_
  refine cg (sp_extract (od rfl) rfl) ?_
  refine cg (sp_assign (od rfl)) ?_
  refine cg (sp_assign (od rfl)) ?_
  refine cg (sp_assign (od rfl)) ?_
  refine sn fun a w hS => ?_
  refine et ?_
  refine ws ?_
  obtain ⟨v_7, e_8, h⟩ := bind_some h
  refine st_reg mixed (by kernel_rfl) hS ?_
  refine cg (sp_load ty33 (od rfl)) ?_
  refine cg (sp_call en11 (f11_ok e_8) ⟨od rfl, odi, odi, odi, trivial⟩) ?_
  refine mv rfl ?_
  refine cg (sp_extract (od rfl) rfl) ?_
  refine cg (sp_extract (od rfl) rfl) ?_
  refine cg (sp_extract (od rfl) rfl) ?_
  refine cg (sp_assign (od rfl)) ?_
  refine cg (sp_assign (od rfl)) ?_
  refine cg (sp_assign (od rfl)) ?_
  refine sn fun a w hS => ?_
  refine et ?_
  refine ws ?_
  obtain ⟨v_9, e_10, h⟩ := bind_some h
  refine st_reg mixed (by kernel_rfl) hS ?_
  refine cg (sp_load ty33 (od rfl)) ?_
  refine cg (sp_call en11 (f11_ok e_10) ⟨od rfl, odi, odi, odi, trivial⟩) ?_
  refine mv rfl ?_
  refine cg (sp_extract (od rfl) rfl) ?_
  refine cg (sp_extract (od rfl) rfl) ?_
  refine cg (sp_extract (od rfl) rfl) ?_
  refine cg (sp_assign (od rfl)) ?_
  refine cg (sp_assign (od rfl)) ?_
  refine cg (sp_assign (od rfl)) ?_
  refine sn fun a w hS => ?_
  refine et ?_
  refine ws ?_
  refine ws ?_
  obtain ⟨v_11, e_12, h⟩ := bind_some h
  obtain ⟨v_13, e_14, h⟩ := bind_some h
  refine st_reg mixed (by kernel_rfl) hS ?_
  refine mv rfl ?_
  refine cg (sp_neq (od rfl) (odi)) ?_
  refine mv rfl ?_
  refine sc (sgF rfl fun hG => sp_move (od rfl)) ?_
  refine sc (sgF rfl fun hG => sp_not (odw rfl hG)) ?_
  refine cg (sp_pickOr (od rfl) fun hg => odw rfl (not_t hg)) ?_
  refine mv rfl ?_
  refine sc (sgF rfl fun hG => sp_move (od rfl)) ?_
  refine sc (sgF rfl fun hG => sp_neq (odw rfl hG) (odi)) ?_
  refine cg (sp_pickOr (od rfl) fun hg => odw rfl (not_t hg)) ?_
  refine mv rfl ?_
  refine sc (sgF rfl fun hG => sp_move (od rfl)) ?_
  refine sc (sgF rfl fun hG => sp_buildSlice [.const (.int .i64 (0)), .const (.int .i64 (1))] ([0, 1] : List Int) sl37 ze3 rfl rfl rfl rfl ⟨odi, odi, trivial⟩) ?_
  refine sc (sgF rfl fun hG => sp_call en12 (f12_ok (guard_some e_12 hG)) ⟨odw rfl hG, odw rfl hG, trivial⟩) ?_
  refine sc (sgF rfl fun hG => sp_not (odw rfl hG)) ?_
  refine cg (sp_pickOr (od rfl) fun hg => odw rfl (not_t hg)) ?_
  refine mv rfl ?_
  refine sc (sgF rfl fun hG => sp_move (od rfl)) ?_
  refine sc (sgF rfl fun hG => sp_not (odw rfl hG)) ?_
  refine cg (sp_pickOr (od rfl) fun hg => odw rfl (not_t hg)) ?_
  refine mv rfl ?_
  refine sc (sgF rfl fun hG => sp_move (od rfl)) ?_
  refine sc (sgF rfl fun hG => sp_neq (odw rfl hG) (odi)) ?_
  refine cg (sp_pickOr (od rfl) fun hg => odw rfl (not_t hg)) ?_
  refine mv rfl ?_
  refine sc (sgF rfl fun hG => sp_move (od rfl)) ?_
  refine sc (sgF rfl fun hG => sp_buildSlice [.const (.int .i64 (2))] ([2] : List Int) sl37 ze3 rfl rfl rfl rfl ⟨odi, trivial⟩) ?_
  refine sc (sgF rfl fun hG => sp_call en12 (f12_ok (guard_some e_14 hG)) ⟨odw rfl hG, odw rfl hG, trivial⟩) ?_
  refine sc (sgF rfl fun hG => sp_not (odw rfl hG)) ?_
  refine cg (sp_pickOr (od rfl) fun hg => odw rfl (not_t hg)) ?_
  refine mv rfl ?_
  refine sc (sgF rfl fun hG => sp_move (od rfl)) ?_
  refine sc (sgF rfl fun hG => sp_not (odw rfl hG)) ?_
  refine cg (sp_pickOr (od rfl) fun hg => odw rfl (not_t hg)) ?_
  refine mv rfl ?_
  refine sc (sgF rfl fun hG => sp_move (od rfl)) ?_
  refine sc (sgF rfl fun hG => sp_neq (odw rfl hG) (odi)) ?_
  refine cg (sp_pickOr (od rfl) fun hg => odw rfl (not_t hg)) ?_
  refine mv rfl ?_
  refine sc (sgF rfl fun hG => sp_move (od rfl)) ?_
  refine cg (sp_pickOr (od rfl) fun hg => odw rfl (not_t hg)) ?_
  refine mv rfl ?_
  refine sc (sgF rfl fun hG => sp_move (od rfl)) ?_
  refine sc (sgF rfl fun hG => sp_neq (odw rfl hG) (odi)) ?_
  refine cg (sp_pickOr (od rfl) fun hg => odw rfl (not_t hg)) ?_
  refine sn fun a w hS => ?_
  refine et ?_
  refine st_cond hS rfl (fun hb => ?_) (fun hb => ?_)
  · have h := ite_t hb h
    refine ws ?_
    refine st_reg mixed (by kernel_rfl) hS ?_
    refine cg (sp_assign (odb)) ?_
    refine sn fun a w hS => ?_
    refine et ?_
    refine wp_ret ?_
    refine exit_thenR ?_
    cases h
    exact st_ret hS (run_results1 Tryz.results4 a w) (hS.get rfl)
  have h := ite_f hb h
  refine wp_skip ?_
  refine et ?_
  refine ws ?_
  obtain ⟨v_15, e_16, h⟩ := bind_some h
  refine st_reg mixed (by kernel_rfl) hS ?_
  refine cg (sp_load ty33 (od rfl)) ?_
  refine cg (sp_call en13 (f13_ok e_16) ⟨od rfl, odi, trivial⟩) ?_
  refine mv rfl ?_
  refine cg (sp_extract (od rfl) rfl) ?_
  refine cg (sp_extract (od rfl) rfl) ?_
  refine cg (sp_assign (od rfl)) ?_
  refine cg (sp_assign (od rfl)) ?_
  refine sn fun a w hS => ?_
  refine et ?_
  refine ws ?_
  obtain ⟨v_17, e_18, h⟩ := bind_some h
  refine st_reg mixed (by kernel_rfl) hS ?_
  refine cg (sp_load ty33 (od rfl)) ?_
  refine cg (sp_call en14 (f14_ok e_18) ⟨od rfl, odi, trivial⟩) ?_
  refine mv rfl ?_
  refine cg (sp_extract (od rfl) rfl) ?_
  refine cg (sp_extract (od rfl) rfl) ?_
  refine cg (sp_extract (od rfl) rfl) ?_
  refine cg (sp_assign (od rfl)) ?_
  refine cg (sp_assign (od rfl)) ?_
  refine cg (sp_assign (od rfl)) ?_
  refine sn fun a w hS => ?_
  refine et ?_
  refine ws ?_
  obtain ⟨v_19, e_20, h⟩ := bind_some h
  refine l_start ?_
  refine s_c hS (sg (sp_load ty33 (od rfl))) rfl fun a w hS hM => ?_
  refine s_c hS (sg (sp_buildSlice [.const (.int .i64 (0)), .const (.int .i64 (1))] ([0, 1] : List Int) sl37 ze3 rfl rfl rfl rfl ⟨odi, odi, trivial⟩)) rfl fun a w hS hM => ?_
  refine s_c hS (sg (bd46_01 (odi) (odi))) rfl fun a w hS hM => ?_
  refine s_c hS (sg (bd46_01 (odi) (odi))) rfl fun a w hS hM => ?_
  refine s_c hS (sg (sp_buildSlice [.tmp 106, .tmp 107] ([((0, 10) : S_api_Span), (((-3), 7) : S_api_Span)] : List S_api_Span) sl49 ze46 rfl rfl rfl rfl ⟨od rfl, od rfl, trivial⟩)) rfl fun a w hS hM => ?_
  refine s_c hS (sg (sp_call en15 (f15_ok e_20) ⟨od rfl, od rfl, odi, odi, odnil (α := S_api_Span), od rfl, trivial⟩)) rfl fun a w hS hM => ?_
  refine s_c hS (sg (sp_move (od rfl))) rfl fun a w hS hM => ?_
  refine s_c hS (sg (sp_extract (od rfl) rfl)) rfl fun a w hS hM => ?_
  refine s_c hS (sg (sp_extract (od rfl) rfl)) rfl fun a w hS hM => ?_
  refine s_c hS (sg (sp_extract (od rfl) rfl)) rfl fun a w hS hM => ?_
  refine s_allocStore ze46 hS (od rfl) (fun k hk => by cases hk; rfl) rfl fun a w hS hM => ?_
  refine s_c hS (sg (sp_assign (od rfl))) rfl fun a w hS hM => ?_
  refine s_c hS (sg (sp_assign (od rfl))) rfl fun a w hS hM => ?_
  refine l_end ?_
  refine et ?_
  refine ws ?_
  obtain ⟨v_21, e_22, h⟩ := bind_some h
  refine st_reg mixed (by kernel_rfl) hS ?_
  refine cg (sp_load ty33 (od rfl)) ?_
  refine cg (sp_call en16 (f16_ok e_22) ⟨od rfl, odi, odi, odi, odi, trivial⟩) ?_
  refine mv rfl ?_
  refine cg (sp_extract (od rfl) rfl) ?_
  refine cg (sp_extract (od rfl) rfl) ?_
  refine cg (sp_extract (od rfl) rfl) ?_
  refine cg (sp_assign (od rfl)) ?_
  refine cg (sp_assign (od rfl)) ?_
  refine cg (sp_assign (od rfl)) ?_
  refine sn fun a w hS => ?_
  refine et ?_
  refine ws ?_
  refine ws ?_
  obtain ⟨v_23, e_24, h⟩ := bind_some h
  obtain ⟨v_25, e_26, h⟩ := bind_some h
  refine st_reg mixed (by kernel_rfl) hS ?_
  refine mv rfl ?_
  refine cg (sp_neq (od rfl) (odi)) ?_
  refine mv rfl ?_
  refine sc (sgF rfl fun hG => sp_move (od rfl)) ?_
  refine sc (sgF rfl fun hG => bd52 (odi) (odi)) ?_
  refine sc (sgF rfl fun hG => sp_buildSlice [.tmp 123] ([(#v[0, 0] : Vector Int 2)] : List (Vector Int 2)) sl53 ze52 rfl rfl rfl rfl ⟨odw rfl hG, trivial⟩) ?_
  refine sc (sgF rfl fun hG => bd52 (odi) (odi)) ?_
  refine sc (sgF rfl fun hG => sp_buildSlice [.tmp 125] ([(#v[5, 10] : Vector Int 2)] : List (Vector Int 2)) sl53 ze52 rfl rfl rfl rfl ⟨odw rfl hG, trivial⟩) ?_
  refine sc (sgF rfl fun hG => bd52 (odi) (odi)) ?_
  refine sc (sgF rfl fun hG => bd52 (odi) (odi)) ?_
  refine sc (sgF rfl fun hG => sp_buildSlice [.tmp 127, .tmp 128] ([(#v[9, 20] : Vector Int 2), (#v[12, 5] : Vector Int 2)] : List (Vector Int 2)) sl53 ze52 rfl rfl rfl rfl ⟨odw rfl hG, odw rfl hG, trivial⟩) ?_
  refine sc (sgF rfl fun hG => sp_buildSlice [.tmp 124, .tmp 126, .tmp 129] ([([(#v[0, 0] : Vector Int 2)] : List (Vector Int 2)), ([(#v[5, 10] : Vector Int 2)] : List (Vector Int 2)), ([(#v[9, 20] : Vector Int 2), (#v[12, 5] : Vector Int 2)] : List (Vector Int 2))] : List (List (Vector Int 2))) sl41 ze53 rfl rfl rfl rfl ⟨odw rfl hG, odw rfl hG, odw rfl hG, trivial⟩) ?_
  refine sc (sgF rfl fun hG => sp_call en17 (f17_ok (guard_some e_24 hG)) ⟨odw rfl hG, odw rfl hG, trivial⟩) ?_
  refine sc (sgF rfl fun hG => sp_not (odw rfl hG)) ?_
  refine cg (sp_pickOr (od rfl) fun hg => odw rfl (not_t hg)) ?_
  refine mv rfl ?_
  refine sc (sgF rfl fun hG => sp_move (od rfl)) ?_
  refine sc (sgF rfl fun hG => sp_buildSlice [.const (.int .i64 (1)), .const (.int .i64 (2))] ([1, 2] : List Int) sl37 ze3 rfl rfl rfl rfl ⟨odi, odi, trivial⟩) ?_
  refine sc (sgF rfl fun hG => sp_call en12 (f12_ok (guard_some e_26 hG)) ⟨odw rfl hG, odw rfl hG, trivial⟩) ?_
  refine sc (sgF rfl fun hG => sp_not (odw rfl hG)) ?_
  refine cg (sp_pickOr (od rfl) fun hg => odw rfl (not_t hg)) ?_
  refine mv rfl ?_
  refine sc (sgF rfl fun hG => sp_move (od rfl)) ?_
  refine sc (sgF rfl fun hG => sp_not (odw rfl hG)) ?_
  refine cg (sp_pickOr (od rfl) fun hg => odw rfl (not_t hg)) ?_
  refine mv rfl ?_
  refine sc (sgF rfl fun hG => sp_move (od rfl)) ?_
  refine sc (sgF rfl fun hG => sp_neq (odw rfl hG) (odi)) ?_
  refine cg (sp_pickOr (od rfl) fun hg => odw rfl (not_t hg)) ?_
  refine mv rfl ?_
  refine sc (sgF rfl fun hG => sp_load ty46 (od rfl)) ?_
  refine sc (sgF rfl fun hG => bd46_01 (odi) (odi)) ?_
  refine sc (sgF rfl fun hG => sp_neqS eq46 rfl eg46 rfl (odw rfl hG) (odw rfl hG)) ?_
  refine cg (sp_pickOr (od rfl) fun hg => odw rfl (not_t hg)) ?_
  refine mv rfl ?_
  refine sc (sgF rfl fun hG => sp_move (od rfl)) ?_
  refine sc (sgF rfl fun hG => sp_not (odw rfl hG)) ?_
  refine cg (sp_pickOr (od rfl) fun hg => odw rfl (not_t hg)) ?_
  refine mv rfl ?_
  refine sc (sgF rfl fun hG => sp_move (od rfl)) ?_
  refine sc (sgF rfl fun hG => sp_neq (odw rfl hG) (odi)) ?_
  refine cg (sp_pickOr (od rfl) fun hg => odw rfl (not_t hg)) ?_
  refine mv rfl ?_
  refine sc (sgF rfl fun hG => sp_move (od rfl)) ?_
  refine sc (sgF rfl fun hG => sp_neq (odw rfl hG) (odi)) ?_
  refine cg (sp_pickOr (od rfl) fun hg => odw rfl (not_t hg)) ?_
  refine mv rfl ?_
  refine sc (sgF rfl fun hG => sp_move (od rfl)) ?_
  refine sc (sgF rfl fun hG => sp_not (odw rfl hG)) ?_
  refine cg (sp_pickOr (od rfl) fun hg => odw rfl (not_t hg)) ?_
  refine mv rfl ?_
  refine sc (sgF rfl fun hG => sp_move (od rfl)) ?_
  refine sc (sgF rfl fun hG => sp_neq (odw rfl hG) (odi)) ?_
  refine cg (sp_pickOr (od rfl) fun hg => odw rfl (not_t hg)) ?_
  refine sn fun a w hS => ?_
  refine et ?_
  refine st_cond hS rfl (fun hb => ?_) (fun hb => ?_)
  · have h := ite_t hb h
    refine ws ?_
    refine st_reg mixed (by kernel_rfl) hS ?_
    refine cg (sp_assign (odb)) ?_
    refine sn fun a w hS => ?_
    refine et ?_
    refine wp_ret ?_
    refine exit_thenR ?_
    cases h
    exact st_ret hS (run_results1 Tryz.results4 a w) (hS.get rfl)
  have h := ite_f hb h
  refine wp_skip ?_
  refine et ?_
  refine ws ?_
  obtain ⟨v_27, e_28, h⟩ := bind_some h
  refine st_reg mixed (by kernel_rfl) hS ?_
  refine cg (sp_load ty33 (od rfl)) ?_
  refine cg (sp_call en18 (f18_ok e_28) ⟨od rfl, odi, odi, odi, trivial⟩) ?_
  refine mv rfl ?_
  refine cg (sp_extract (od rfl) rfl) ?_
  refine cg (sp_extract (od rfl) rfl) ?_
  refine cg (sp_assign (od rfl)) ?_
  refine cg (sp_assign (od rfl)) ?_
  refine sn fun a w hS => ?_
  refine et ?_
  refine ws ?_
  obtain ⟨v_29, e_30, h⟩ := bind_some h
  refine st_reg mixed (by kernel_rfl) hS ?_
  refine cg (sp_load ty33 (od rfl)) ?_
  refine cg (sp_call en19 (f19_ok e_30) ⟨od rfl, odi, odi, odi, trivial⟩) ?_
  refine mv rfl ?_
  refine cg (sp_extract (od rfl) rfl) ?_
  refine cg (sp_extract (od rfl) rfl) ?_
  refine cg (sp_extract (od rfl) rfl) ?_
  refine cg (sp_assign (od rfl)) ?_
  refine cg (sp_assign (od rfl)) ?_
  refine cg (sp_assign (od rfl)) ?_
  refine sn fun a w hS => ?_
  refine et ?_
  refine ws ?_
  obtain ⟨v_31, e_32, h⟩ := bind_some h
  obtain ⟨v_33, e_34, h⟩ := bind_some h
  obtain ⟨v_35, e_36, h⟩ := bind_some h
  obtain ⟨v_37, e_38, h⟩ := bind_some h
  refine st_reg mixed (by kernel_rfl) hS ?_
  refine mv rfl ?_
  refine cg (sp_eql (od rfl) (odi)) ?_
  refine mv rfl ?_
  refine sc (sgT rfl fun hG => sp_move (od rfl)) ?_
  refine sc (sgT rfl fun hG => sp_buildSlice [.const (.int .i64 (0))] ([0] : List Int) sl37 ze3 rfl rfl rfl rfl ⟨odi, trivial⟩) ?_
  refine sc (sgT rfl fun hG => sp_call en12 (f12_ok (guard_some e_32 hG)) ⟨odw rfl hG, odw rfl hG, trivial⟩) ?_
  refine cg (sp_pickAnd (od rfl) fun hg => odw rfl hg) ?_
  refine mv rfl ?_
  refine sc (sgT rfl fun hG => sp_move (od rfl)) ?_
  refine sc (sgT rfl fun hG => sp_eql (odw rfl hG) (odi)) ?_
  refine cg (sp_pickAnd (od rfl) fun hg => odw rfl hg) ?_
  refine mv rfl ?_
  refine sc (sgT rfl fun hG => sp_move (od rfl)) ?_
  refine cg (sp_pickAnd (od rfl) fun hg => odw rfl hg) ?_
  refine mv rfl ?_
  refine sc (sgT rfl fun hG => sp_move (od rfl)) ?_
  refine sc (sgT rfl fun hG => sp_eql (odw rfl hG) (odi)) ?_
  refine cg (sp_pickAnd (od rfl) fun hg => odw rfl hg) ?_
  refine mv rfl ?_
  refine sc (sgT rfl fun hG => sp_load ty33 (od rfl)) ?_
  refine sc (sgT rfl fun hG => sp_buildSlice [.const (.int .i64 (0)), .const (.int .i64 (1))] ([0, 1] : List Int) sl37 ze3 rfl rfl rfl rfl ⟨odi, odi, trivial⟩) ?_
  refine sc (sgT rfl fun hG => sp_buildSlice [.const (.int .i64 (0)), .const (.int .i64 (1)), .const (.int .i64 (2))] ([0, 1, 2] : List Int) sl37 ze3 rfl rfl rfl rfl ⟨odi, odi, odi, trivial⟩) ?_
  refine sc (sgT rfl fun hG => sp_call en20 (f20_ok (guard_some e_34 hG)) ⟨odw rfl hG, odw rfl hG, odi, odi, odi, odw rfl hG, trivial⟩) ?_
  refine sc (sgT rfl fun hG => sp_eql (odw rfl hG) (odi)) ?_
  refine cg (sp_pickAnd (od rfl) fun hg => odw rfl hg) ?_
  refine mv rfl ?_
  refine sc (sgT rfl fun hG => sp_load ty33 (od rfl)) ?_
  refine sc (sgT rfl fun hG => sp_buildSlice [.const (.int .i64 (0)), .const (.int .i64 (1))] ([0, 1] : List Int) sl37 ze3 rfl rfl rfl rfl ⟨odi, odi, trivial⟩) ?_
  refine sc (sgT rfl fun hG => sp_buildSlice [.const (.int .i64 (0)), .const (.int .i64 (1)), .const (.int .i64 (2))] ([0, 1, 2] : List Int) sl37 ze3 rfl rfl rfl rfl ⟨odi, odi, odi, trivial⟩) ?_
  refine sc (sgT rfl fun hG => sp_call en20 (f20_ok (guard_some e_36 hG)) ⟨odw rfl hG, odw rfl hG, odi, odi, odi, odw rfl hG, trivial⟩) ?_
  refine sc (sgT rfl fun hG => sp_eql (odw rfl hG) (odi)) ?_
  refine cg (sp_pickAnd (od rfl) fun hg => odw rfl hg) ?_
  refine mv rfl ?_
  refine sc (sgT rfl fun hG => bd33_ ) ?_
  refine sc (sgT rfl fun hG => sp_call en21 (f21_ok (guard_some e_38 hG)) ⟨odw rfl hG, trivial⟩) ?_
  refine sc (sgT rfl fun hG => sp_eql (odw rfl hG) (odi)) ?_
  refine cg (sp_pickAnd (od rfl) fun hg => odw rfl hg) ?_
  refine cg (sp_assign (od rfl)) ?_
  refine sn fun a w hS => ?_
  refine et ?_
  refine wp_ret ?_
  cases h
  exact st_ret hS (run_results1 Tryz.results4 a w) (hS.get rfl)

end Go.Proofs.YtjlagmcdoobimaaGreatDoor
