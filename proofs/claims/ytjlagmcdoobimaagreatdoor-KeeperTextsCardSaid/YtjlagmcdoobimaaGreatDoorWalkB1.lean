/-
  What is proved: each Go function named here returns what its model tells, and changes nothing that was there; where the model tells something.
-/
import Derived.Test.YtjlagmcdoobimaaGreatDoorWalkA
import Derived.Test.YtjlagmcdoobimaaGreatDoorGivenb
import Derived.Test.YtjlagmcdoobimaaGreatDoorModelB1
set_option linter.unusedVariables false
set_option maxRecDepth 100000
namespace Go.Proofs.YtjlagmcdoobimaaGreatDoor
open Go Go.RowKit Go.Proofs.YtjlagmcdoobimaaGreatDoor.Wh

theorem f9_ok  {r : S_api_Market} (h : M.f9  = some r) : CallOK Tryz.prog 9 [] (isV r) := by
  unfold M.f9 at h
  refine callS_of Tryz.func9 rfl Tryz.ntmps9 rfl fun F0 w0 a hS => ?_
  refine ws ?_
  refine l_start ?_
  refine s_alloc zi33 hS rfl fun a w b_1 hS hM => ?_
  have hS : St _ F0 [Item.box (α := S_api_Market) 33 b_1 ((0, [], []) : S_api_Market)] _ w0 _ _ := hS
  refine l_end ?_
  refine et ?_
  refine ws ?_
  refine l_start ?_
  refine s_c hS (sg (bd23_0123 (odi) (odi) (odi) (odi))) rfl fun a w hS hM => ?_
  refine s_c hS (sg (bd23_0123 (odi) (odi) (odi) (odi))) rfl fun a w hS hM => ?_
  refine s_c hS (sg (bd23_0123 (odi) (odi) (odi) (odi))) rfl fun a w hS hM => ?_
  refine s_c hS (sg (sp_buildSlice [.tmp 1, .tmp 2, .tmp 3] ([((0, 1, 5, 10) : S_api_Offer), ((1, 2, 4, 10) : S_api_Offer), ((0, 2, 12, 5) : S_api_Offer)] : List S_api_Offer) sl31 ze23 rfl rfl rfl rfl ⟨od rfl, od rfl, od rfl, trivial⟩)) rfl fun a w hS hM => ?_
  refine s_c hS (sg (bd33_02 (odi) (od rfl))) rfl fun a w hS hM => ?_
  refine s_storeB (k := 0) (Δ := [(0, Pr.ptr b_1), (5, isV (α := S_api_Market) ((3, [], ([((0, 1, 5, 10) : S_api_Offer), ((1, 2, 4, 10) : S_api_Offer), ((0, 2, 12, 5) : S_api_Offer)] : List S_api_Offer)) : S_api_Market))]) ty33 hS rfl ⟨od rfl, od rfl, trivial⟩ ⟨fun _ _ _ _ h => h, fun _ _ _ _ h => h, trivial⟩ rfl (od rfl) fun w hS hM => ?_
  have hS : St _ F0 [Item.box (α := S_api_Market) 33 b_1 ((3, [], ([((0, 1, 5, 10) : S_api_Offer), ((1, 2, 4, 10) : S_api_Offer), ((0, 2, 12, 5) : S_api_Offer)] : List S_api_Offer)) : S_api_Market)] _ w0 _ _ := hS
  have hS := st_freezeB 0 0 hS rfl rfl
  refine l_end ?_
  refine et ?_
  refine wp_ret ?_
  cases h
  obtain ⟨v, hr, hv⟩ := run_resC1 Tryz.results9 ty33 (hS.get rfl)
  exact st_ret hS hr hv

theorem f22_ok {p0 : S_api_Offer} {p1 : Int} {p2 : Int} {r : Bool} (h : M.f22 p0 p1 p2 = some r) : CallOK Tryz.prog 22 [isV p0, isV p1, isV p2] (isV r) := by
  unfold M.f22 at h
  refine callS_of Tryz.func22 rfl Tryz.ntmps22 rfl fun F0 w0 a hS => ?_
  refine ws ?_
  refine st_reg mixed (by kernel_rfl) hS ?_
  refine cg (sp_box (od rfl)) ?_
  refine cg (sp_assign (odb)) ?_
  refine sn fun a w hS => ?_
  refine et ?_
  refine ws ?_
  refine st_reg mixed (by kernel_rfl) hS ?_
  refine cg (sp_fieldAddr fd23_0 (od rfl)) ?_
  refine cg (sp_load ty3 (od rfl)) ?_
  refine cg (sp_geq (od rfl) (odi)) ?_
  refine mv rfl ?_
  refine sc (sgT rfl fun hG => sp_fieldAddr fd23_0 (od rfl)) ?_
  refine sc (sgT rfl fun hG => sp_load ty3 (odw rfl hG)) ?_
  refine sc (sgT rfl fun hG => sp_move (od rfl)) ?_
  refine sc (sgT rfl fun hG => sp_lss (odw rfl hG) (odw rfl hG)) ?_
  refine cg (sp_pickAnd (od rfl) fun hg => odw rfl hg) ?_
  refine mv rfl ?_
  refine sc (sgT rfl fun hG => sp_fieldAddr fd23_1 (od rfl)) ?_
  refine sc (sgT rfl fun hG => sp_load ty3 (odw rfl hG)) ?_
  refine sc (sgT rfl fun hG => sp_geq (odw rfl hG) (odi)) ?_
  refine cg (sp_pickAnd (od rfl) fun hg => odw rfl hg) ?_
  refine mv rfl ?_
  refine sc (sgT rfl fun hG => sp_fieldAddr fd23_1 (od rfl)) ?_
  refine sc (sgT rfl fun hG => sp_load ty3 (odw rfl hG)) ?_
  refine sc (sgT rfl fun hG => sp_move (od rfl)) ?_
  refine sc (sgT rfl fun hG => sp_lss (odw rfl hG) (odw rfl hG)) ?_
  refine cg (sp_pickAnd (od rfl) fun hg => odw rfl hg) ?_
  refine mv rfl ?_
  refine sc (sgT rfl fun hG => sp_fieldAddr fd23_0 (od rfl)) ?_
  refine sc (sgT rfl fun hG => sp_load ty3 (odw rfl hG)) ?_
  refine sc (sgT rfl fun hG => sp_fieldAddr fd23_1 (od rfl)) ?_
  refine sc (sgT rfl fun hG => sp_load ty3 (odw rfl hG)) ?_
  refine sc (sgT rfl fun hG => sp_neq (odw rfl hG) (odw rfl hG)) ?_
  refine cg (sp_pickAnd (od rfl) fun hg => odw rfl hg) ?_
  refine mv rfl ?_
  refine sc (sgT rfl fun hG => sp_fieldAddr fd23_3 (od rfl)) ?_
  refine sc (sgT rfl fun hG => sp_load ty3 (odw rfl hG)) ?_
  refine sc (sgT rfl fun hG => sp_geq (odw rfl hG) (odi)) ?_
  refine cg (sp_pickAnd (od rfl) fun hg => odw rfl hg) ?_
  refine mv rfl ?_
  refine sc (sgT rfl fun hG => sp_fieldAddr fd23_3 (od rfl)) ?_
  refine sc (sgT rfl fun hG => sp_load ty3 (odw rfl hG)) ?_
  refine sc (sgT rfl fun hG => sp_leq (odw rfl hG) (odi)) ?_
  refine cg (sp_pickAnd (od rfl) fun hg => odw rfl hg) ?_
  refine mv rfl ?_
  refine sc (sgT rfl fun hG => sp_fieldAddr fd23_2 (od rfl)) ?_
  refine sc (sgT rfl fun hG => sp_load ty3 (odw rfl hG)) ?_
  refine sc (sgT rfl fun hG => sp_geq (odw rfl hG) (odi)) ?_
  refine cg (sp_pickAnd (od rfl) fun hg => odw rfl hg) ?_
  refine mv rfl ?_
  refine sc (sgT rfl fun hG => sp_fieldAddr fd23_2 (od rfl)) ?_
  refine sc (sgT rfl fun hG => sp_load ty3 (odw rfl hG)) ?_
  refine sc (sgT rfl fun hG => sp_move (od rfl)) ?_
  refine sc (sgT rfl fun hG => sp_leq (odw rfl hG) (odw rfl hG)) ?_
  refine cg (sp_pickAnd (od rfl) fun hg => odw rfl hg) ?_
  refine cg (sp_assign (od rfl)) ?_
  refine sn fun a w hS => ?_
  refine et ?_
  refine wp_ret ?_
  cases h
  exact st_ret hS (run_results1 Tryz.results22 a w) (hS.get rfl)

theorem f21_ok {p0 : S_api_Market} {r : Int} (h : M.f21 p0 = some r) : CallOK Tryz.prog 21 [isV p0] (isV r) := by
  unfold M.f21 at h
  refine callS_of Tryz.func21 rfl Tryz.ntmps21 rfl fun F0 w0 a hS => ?_
  refine ws ?_
  refine st_reg mixed (by kernel_rfl) hS ?_
  refine cg (sp_box (od rfl)) ?_
  refine cg (sp_assign (odi)) ?_
  refine sn fun a w hS => ?_
  refine et ?_
  refine ws ?_
  refine ws ?_
  refine st_reg mixed (by kernel_rfl) hS ?_
  refine cg (sp_fieldAddr fd33_0 (od rfl)) ?_
  refine cg (sp_load ty3 (od rfl)) ?_
  refine cg (sp_lss (od rfl) (odi)) ?_
  refine mv rfl ?_
  refine sc (sgF rfl fun hG => sp_fieldAddr fd33_0 (od rfl)) ?_
  refine sc (sgF rfl fun hG => sp_load ty3 (odw rfl hG)) ?_
  refine sc (sgF rfl fun hG => sp_gtr (odw rfl hG) (odi)) ?_
  refine cg (sp_pickOr (od rfl) fun hg => odw rfl (not_t hg)) ?_
  refine mv rfl ?_
  refine sc (sgF rfl fun hG => sp_fieldAddr fd33_1 (od rfl)) ?_
  refine sc (sgF rfl fun hG => sp_load ty31 (odw rfl hG)) ?_
  refine sc (sgF rfl fun hG => sp_len Tryz.underlying31 (odw rfl hG)) ?_
  refine sc (sgF rfl fun hG => sp_gtr (odw rfl hG) (odi)) ?_
  refine cg (sp_pickOr (od rfl) fun hg => odw rfl (not_t hg)) ?_
  refine mv rfl ?_
  refine sc (sgF rfl fun hG => sp_fieldAddr fd33_2 (od rfl)) ?_
  refine sc (sgF rfl fun hG => sp_load ty31 (odw rfl hG)) ?_
  refine sc (sgF rfl fun hG => sp_len Tryz.underlying31 (odw rfl hG)) ?_
  refine sc (sgF rfl fun hG => sp_gtr (odw rfl hG) (odi)) ?_
  refine cg (sp_pickOr (od rfl) fun hg => odw rfl (not_t hg)) ?_
  refine sn fun a w hS => ?_
  refine et ?_
  refine st_cond hS rfl (fun hb => ?_) (fun hb => ?_)
  · have h := ite_t hb h
    refine ws ?_
    refine st_reg mixed (by kernel_rfl) hS ?_
    refine cg (sp_assign (odi)) ?_
    refine sn fun a w hS => ?_
    refine et ?_
    refine wp_ret ?_
    refine exit_thenR ?_
    cases h
    exact st_ret hS (run_results1 Tryz.results21 a w) (hS.get rfl)
  have h := ite_f hb h
  refine wp_skip ?_
  refine et ?_
  refine ws ?_
  refine ws ?_
  refine st_reg mixed (by kernel_rfl) hS ?_
  refine cg (sp_fieldAddr fd33_1 (od rfl)) ?_
  refine cg (sp_load ty31 (od rfl)) ?_
  refine cg (sp_len Tryz.underlying31 (od rfl)) ?_
  refine cg (sp_move (odi)) ?_
  refine sn fun a w hS => ?_
  refine et ?_
  refine wp_block ?_
  obtain ⟨o_4, e_5, hr_6⟩ := bind_some h
  refine c_loop (fun K a w => ∃ k i_1 s_3, K = k + 1 ∧ ForI _ _ _ o_4 k i_1 s_3 ∧ St 53 F0 [] [(1, isA (α := S_api_Market) p0), (28, isV (α := List S_api_Offer) p0.2.1), (29, isV (α := Int) (p0.2.1.length : Int)), (30, isV (α := Int) i_1)] w0 a w) ?_ ?_ ⟨_, _, _, rfl, for_init e_5, hS.weak ⟨od rfl, od rfl, od rfl, od rfl, trivial⟩⟩
  · rintro a w ⟨_, _, _, hk, _⟩; cases hk
  rintro K a w ⟨k_4, i_1, s_3, hk, hF_4, hS⟩
  obtain rfl := Nat.succ.inj hk
  refine ws ?_
  refine st_reg mixed (by kernel_rfl) hS ?_
  refine cg (sp_lss (od rfl) (od rfl)) ?_
  refine sn fun a w hS => ?_
  refine et ?_
  refine ws ?_
  refine st_cond hS rfl (fun hb => ?_) (fun hb => ?_)
  · refine wp_skip ?_
    refine et ?_
    obtain ⟨k_4, o, rfl, h, hN_4, hL_4, hw_4⟩ := for_more hF_4 hb
    refine ws ?_
    refine wp_block ?_
    refine ws ?_
    obtain ⟨v_7, e_8, h⟩ := bind_some h
    refine l_start ?_
    refine s_c hS (sg (sp_indexAddr sl31 (od rfl) (od rfl) e_8)) rfl fun a w hS hM => ?_
    refine s_c hS (sg (sp_load ty23 (od rfl))) rfl fun a w hS hM => ?_
    refine s_allocStore ze23 hS (od rfl) (fun k hk => by cases hk; rfl) rfl fun a w hS hM => ?_
    refine l_end ?_
    refine et ?_
    refine ws ?_
    obtain ⟨v_9, e_10, h⟩ := bind_some h
    refine st_reg mixed (by kernel_rfl) hS ?_
    refine cg (sp_load ty23 (od rfl)) ?_
    refine cg (sp_fieldAddr fd33_0 (od rfl)) ?_
    refine cg (sp_load ty3 (od rfl)) ?_
    refine cg (sp_call en22 (f22_ok e_10) ⟨od rfl, od rfl, odi, trivial⟩) ?_
    refine cg (sp_not (od rfl)) ?_
    refine sn fun a w hS => ?_
    refine et ?_
    refine st_cond hS rfl (fun hb => ?_) (fun hb => ?_)
    · have h := ite_t hb h
      refine ws ?_
      refine st_reg mixed (by kernel_rfl) hS ?_
      refine cg (sp_assign (odi)) ?_
      refine sn fun a w hS => ?_
      refine et ?_
      refine wp_ret ?_
      refine exit_blockR ?_
      refine exit_thenR ?_
      cases h
      obtain rfl := hL_4 _ rfl
      have h := (elim_leave hr_6)
      refine exit_thenR ?_
      refine exit_blockR ?_
      refine exit_thenR ?_
      cases h
      exact st_ret hS (run_results1 Tryz.results21 a w) (hS.get rfl)
    have h := ite_f hb h
    refine wp_skip ?_
    refine exit_block ?_
    refine et ?_
    refine st_reg mixed (by kernel_rfl) hS ?_
    refine cg (sp_add (od rfl) (odi)) ?_
    refine mv rfl ?_
    refine sn fun a w hS => ?_
    cases h
    exact ⟨k_4, _, _, rfl, hN_4 _ rfl, hS.weak ⟨od rfl, od rfl, od rfl, od (congrArg (fun z => some (isV (α := Int) z)) hw_4), trivial⟩⟩
  refine wp_exit ?_
  obtain rfl := for_done hF_4 hb
  have h := elim_again hr_6
  refine exit_thenE ?_
  refine exit_thenE ?_
  refine exit_here ?_
  refine et ?_
  refine ws ?_
  refine ws ?_
  refine st_reg mixed (by kernel_rfl) hS ?_
  refine cg (sp_fieldAddr fd33_2 (od rfl)) ?_
  refine cg (sp_load ty31 (od rfl)) ?_
  refine cg (sp_len Tryz.underlying31 (od rfl)) ?_
  refine cg (sp_move (odi)) ?_
  refine sn fun a w hS => ?_
  refine et ?_
  refine wp_block ?_
  obtain ⟨o_14, e_15, hr_16⟩ := bind_some h
  refine c_loop (fun K a w => ∃ k i_11 s_13, K = k + 1 ∧ ForI _ _ _ o_14 k i_11 s_13 ∧ St 53 F0 [] [(1, isA (α := S_api_Market) p0), (41, isV (α := List S_api_Offer) p0.2.2), (42, isV (α := Int) (p0.2.2.length : Int)), (43, isV (α := Int) i_11)] w0 a w) ?_ ?_ ⟨_, _, _, rfl, for_init e_15, hS.weak ⟨od rfl, od rfl, od rfl, od rfl, trivial⟩⟩
  · rintro a w ⟨_, _, _, hk, _⟩; cases hk
  rintro K a w ⟨k_14, i_11, s_13, hk, hF_14, hS⟩
  obtain rfl := Nat.succ.inj hk
  refine ws ?_
  refine st_reg mixed (by kernel_rfl) hS ?_
  refine cg (sp_lss (od rfl) (od rfl)) ?_
  refine sn fun a w hS => ?_
  refine et ?_
  refine ws ?_
  refine st_cond hS rfl (fun hb => ?_) (fun hb => ?_)
  · refine wp_skip ?_
    refine et ?_
    obtain ⟨k_14, o, rfl, h, hN_14, hL_14, hw_14⟩ := for_more hF_14 hb
    refine ws ?_
    refine wp_block ?_
    refine ws ?_
    obtain ⟨v_17, e_18, h⟩ := bind_some h
    refine l_start ?_
    refine s_c hS (sg (sp_indexAddr sl31 (od rfl) (od rfl) e_18)) rfl fun a w hS hM => ?_
    refine s_c hS (sg (sp_load ty23 (od rfl))) rfl fun a w hS hM => ?_
    refine s_allocStore ze23 hS (od rfl) (fun k hk => by cases hk; rfl) rfl fun a w hS hM => ?_
    refine l_end ?_
    refine et ?_
    refine ws ?_
    obtain ⟨v_19, e_20, h⟩ := bind_some h
    refine st_reg mixed (by kernel_rfl) hS ?_
    refine cg (sp_load ty23 (od rfl)) ?_
    refine cg (sp_fieldAddr fd33_0 (od rfl)) ?_
    refine cg (sp_load ty3 (od rfl)) ?_
    refine cg (sp_call en22 (f22_ok e_20) ⟨od rfl, od rfl, odi, trivial⟩) ?_
    refine cg (sp_not (od rfl)) ?_
    refine sn fun a w hS => ?_
    refine et ?_
    refine st_cond hS rfl (fun hb => ?_) (fun hb => ?_)
    · have h := ite_t hb h
      refine ws ?_
      refine st_reg mixed (by kernel_rfl) hS ?_
      refine cg (sp_assign (odi)) ?_
      refine sn fun a w hS => ?_
      refine et ?_
      refine wp_ret ?_
      refine exit_blockR ?_
      refine exit_thenR ?_
      cases h
      obtain rfl := hL_14 _ rfl
      have h := (elim_leave hr_16)
      refine exit_thenR ?_
      refine exit_blockR ?_
      refine exit_thenR ?_
      cases h
      exact st_ret hS (run_results1 Tryz.results21 a w) (hS.get rfl)
    have h := ite_f hb h
    refine wp_skip ?_
    refine exit_block ?_
    refine et ?_
    refine st_reg mixed (by kernel_rfl) hS ?_
    refine cg (sp_add (od rfl) (odi)) ?_
    refine mv rfl ?_
    refine sn fun a w hS => ?_
    cases h
    exact ⟨k_14, _, _, rfl, hN_14 _ rfl, hS.weak ⟨od rfl, od rfl, od rfl, od (congrArg (fun z => some (isV (α := Int) z)) hw_14), trivial⟩⟩
  refine wp_exit ?_
  obtain rfl := for_done hF_14 hb
  have h := elim_again hr_16
  refine exit_thenE ?_
  refine exit_thenE ?_
  refine exit_here ?_
  refine et ?_
  refine ws ?_
  refine st_reg mixed (by kernel_rfl) hS ?_
  refine cg (sp_assign (odi)) ?_
  refine sn fun a w hS => ?_
  refine et ?_
  refine wp_ret ?_
  cases h
  exact st_ret hS (run_results1 Tryz.results21 a w) (hS.get rfl)

theorem f29_ok {p0 : S_api_Market} {p1 : List Int} {p2 : S_keeper_numbers} {r : Int} (h : M.f29 p0 p1 p2 = some r) : CallOK Tryz.prog 29 [isV p0, isV p1, isV p2] (isV r) := by
  unfold M.f29 at h
  refine callS_of Tryz.func29 rfl Tryz.ntmps29 rfl fun F0 w0 a hS => ?_
  refine ws ?_
  refine st_reg mixed (by kernel_rfl) hS ?_
  refine cg (sp_box (od rfl)) ?_
  refine cg (sp_box (od rfl)) ?_
  refine cg (sp_assign (odi)) ?_
  refine sn fun a w hS => ?_
  refine et ?_
  refine ws ?_
  refine ws ?_
  obtain ⟨v_1, e_2, h⟩ := bind_some h
  refine st_reg mixed (by kernel_rfl) hS ?_
  refine cg (sp_load ty33 (od rfl)) ?_
  refine cg (sp_call en21 (f21_ok e_2) ⟨od rfl, trivial⟩) ?_
  refine cg (sp_assign (od rfl)) ?_
  refine sn fun a w hS => ?_
  refine et ?_
  refine ws ?_
  refine st_reg mixed (by kernel_rfl) hS ?_
  refine mv rfl ?_
  refine cg (sp_neq (od rfl) (odi)) ?_
  refine sn fun a w hS => ?_
  refine et ?_
  refine st_cond hS rfl (fun hb => ?_) (fun hb => ?_)
  · have h := ite_t hb h
    refine ws ?_
    refine st_reg mixed (by kernel_rfl) hS ?_
    refine mv rfl ?_
    refine cg (sp_assign (od rfl)) ?_
    refine sn fun a w hS => ?_
    refine et ?_
    refine wp_ret ?_
    refine exit_thenR ?_
    cases h
    exact st_ret hS (run_results1 Tryz.results29 a w) (hS.get rfl)
  have h := ite_f hb h
  refine wp_skip ?_
  refine et ?_
  refine ws ?_
  refine ws ?_
  refine st_reg mixed (by kernel_rfl) hS ?_
  refine mv rfl ?_
  refine cg (sp_len Tryz.underlying37 (od rfl)) ?_
  refine cg (sp_move (odi)) ?_
  refine sn fun a w hS => ?_
  refine et ?_
  refine wp_block ?_
  obtain ⟨o_6, e_7, hr_8⟩ := bind_some h
  refine c_loop (fun K a w => ∃ k i_3 s_5, K = k + 1 ∧ ForI _ _ _ o_6 k i_3 s_5 ∧ St 79 F0 [] [(1, isV (α := List Int) p1), (3, isA (α := S_api_Market) p0), (5, isA (α := S_keeper_numbers) p2), (19, isV (α := List Int) p1), (20, isV (α := Int) (p1.length : Int)), (21, isV (α := Int) i_3)] w0 a w) ?_ ?_ ⟨_, _, _, rfl, for_init e_7, hS.weak ⟨od rfl, od rfl, od rfl, od rfl, od rfl, od rfl, trivial⟩⟩
  · rintro a w ⟨_, _, _, hk, _⟩; cases hk
  rintro K a w ⟨k_6, i_3, s_5, hk, hF_6, hS⟩
  obtain rfl := Nat.succ.inj hk
  refine ws ?_
  refine st_reg mixed (by kernel_rfl) hS ?_
  refine cg (sp_lss (od rfl) (od rfl)) ?_
  refine sn fun a w hS => ?_
  refine et ?_
  refine ws ?_
  refine st_cond hS rfl (fun hb => ?_) (fun hb => ?_)
  · refine wp_skip ?_
    refine et ?_
    obtain ⟨k_6, o, rfl, h, hN_6, hL_6, hw_6⟩ := for_more hF_6 hb
    refine ws ?_
    refine wp_block ?_
    refine ws ?_
    obtain ⟨v_9, e_10, h⟩ := bind_some h
    refine st_reg mixed (by kernel_rfl) hS ?_
    refine mv rfl ?_
    refine cg (sp_indexAddr sl37 (od rfl) (od rfl) e_10) ?_
    refine cg (sp_load ty3 (od rfl)) ?_
    refine cg (sp_assign (od rfl)) ?_
    refine cg (sp_assign (od rfl)) ?_
    refine sn fun a w hS => ?_
    refine et ?_
    refine ws ?_
    obtain ⟨v_11, e_12, h⟩ := bind_some h
    refine st_reg mixed (by kernel_rfl) hS ?_
    refine mv rfl ?_
    refine cg (sp_lss (od rfl) (odi)) ?_
    refine mv rfl ?_
    refine sc (sgF rfl fun hG => sp_move (od rfl)) ?_
    refine sc (sgF rfl fun hG => sp_fieldAddr fd33_2 (od rfl)) ?_
    refine sc (sgF rfl fun hG => sp_load ty31 (odw rfl hG)) ?_
    refine sc (sgF rfl fun hG => sp_len Tryz.underlying31 (odw rfl hG)) ?_
    refine sc (sgF rfl fun hG => sp_geq (odw rfl hG) (odw rfl hG)) ?_
    refine cg (sp_pickOr (od rfl) fun hg => odw rfl (not_t hg)) ?_
    refine mv rfl ?_
    refine sc (sgF rfl fun hG => sp_move (od rfl)) ?_
    refine sc (sgF rfl fun hG => sp_gtr (odw rfl hG) (odi)) ?_
    refine sc (sgF rfl fun hG => sp_move (odw rfl hG)) ?_
    refine sc (sgwT rfl fun hG => sp_move (od rfl)) ?_
    refine sc (sgwT rfl fun hG => sp_move (od rfl)) ?_
    refine sc (sgwT rfl fun hG => sp_sub (odw rfl hG) (odi)) ?_
    refine sc (sgwT rfl fun hG => sp_indexAddr sl37 (odw rfl hG) (odw rfl hG) (guard_some e_12 hG)) ?_
    refine sc (sgwT rfl fun hG => sp_load ty3 (odw rfl hG)) ?_
    refine sc (sgwT rfl fun hG => sp_move (od rfl)) ?_
    refine sc (sgwT rfl fun hG => sp_geq (odw rfl hG) (odw rfl hG)) ?_
    refine sc (sgF rfl fun hG => sp_pickAnd (odw rfl hG) fun hg => odw rfl (and_mk hG hg)) ?_
    refine cg (sp_pickOr (od rfl) fun hg => odw rfl (not_t hg)) ?_
    refine sn fun a w hS => ?_
    refine et ?_
    refine st_cond hS rfl (fun hb => ?_) (fun hb => ?_)
    · have h := ite_t hb h
      refine ws ?_
      refine st_reg mixed (by kernel_rfl) hS ?_
      refine cg (sp_assign (odi)) ?_
      refine sn fun a w hS => ?_
      refine et ?_
      refine wp_ret ?_
      refine exit_blockR ?_
      refine exit_thenR ?_
      cases h
      obtain rfl := hL_6 _ rfl
      have h := (elim_leave hr_8)
      refine exit_thenR ?_
      refine exit_blockR ?_
      refine exit_thenR ?_
      cases h
      exact st_ret hS (run_results1 Tryz.results29 a w) (hS.get rfl)
    have h := ite_f hb h
    refine wp_skip ?_
    refine exit_block ?_
    refine et ?_
    refine st_reg mixed (by kernel_rfl) hS ?_
    refine cg (sp_add (od rfl) (odi)) ?_
    refine mv rfl ?_
    refine sn fun a w hS => ?_
    cases h
    exact ⟨k_6, _, _, rfl, hN_6 _ rfl, hS.weak ⟨od rfl, od rfl, od rfl, od rfl, od rfl, od (congrArg (fun z => some (isV (α := Int) z)) hw_6), trivial⟩⟩
  refine wp_exit ?_
  obtain rfl := for_done hF_6 hb
  have h := elim_again hr_8
  refine exit_thenE ?_
  refine exit_thenE ?_
  refine exit_here ?_
  refine et ?_
  refine ws ?_
  refine ws ?_
  refine st_reg mixed (by kernel_rfl) hS ?_
  refine cg (sp_fieldAddr fd72_0 (od rfl)) ?_
  refine cg (sp_load ty37 (od rfl)) ?_
  refine cg (sp_len Tryz.underlying37 (od rfl)) ?_
  refine cg (sp_move (odi)) ?_
  refine sn fun a w hS => ?_
  refine et ?_
  refine wp_block ?_
  obtain ⟨o_16, e_17, hr_18⟩ := bind_some h
  refine c_loop (fun K a w => ∃ k i_13 s_15, K = k + 1 ∧ ForI _ _ _ o_16 k i_13 s_15 ∧ St 79 F0 [] [(3, isA (α := S_api_Market) p0), (5, isA (α := S_keeper_numbers) p2), (50, isV (α := List Int) p2.1), (51, isV (α := Int) (p2.1.length : Int)), (52, isV (α := Int) i_13)] w0 a w) ?_ ?_ ⟨_, _, _, rfl, for_init e_17, hS.weak ⟨od rfl, od rfl, od rfl, od rfl, od rfl, trivial⟩⟩
  · rintro a w ⟨_, _, _, hk, _⟩; cases hk
  rintro K a w ⟨k_16, i_13, s_15, hk, hF_16, hS⟩
  obtain rfl := Nat.succ.inj hk
  refine ws ?_
  refine st_reg mixed (by kernel_rfl) hS ?_
  refine cg (sp_lss (od rfl) (od rfl)) ?_
  refine sn fun a w hS => ?_
  refine et ?_
  refine ws ?_
  refine st_cond hS rfl (fun hb => ?_) (fun hb => ?_)
  · refine wp_skip ?_
    refine et ?_
    obtain ⟨k_16, o, rfl, h, hN_16, hL_16, hw_16⟩ := for_more hF_16 hb
    refine ws ?_
    refine wp_block ?_
    refine ws ?_
    obtain ⟨v_19, e_20, h⟩ := bind_some h
    refine st_reg mixed (by kernel_rfl) hS ?_
    refine cg (sp_indexAddr sl37 (od rfl) (od rfl) e_20) ?_
    refine cg (sp_load ty3 (od rfl)) ?_
    refine cg (sp_assign (od rfl)) ?_
    refine sn fun a w hS => ?_
    refine et ?_
    refine ws ?_
    refine st_reg mixed (by kernel_rfl) hS ?_
    refine mv rfl ?_
    refine cg (sp_lss (od rfl) (odi)) ?_
    refine mv rfl ?_
    refine sc (sgF rfl fun hG => sp_move (od rfl)) ?_
    refine sc (sgF rfl fun hG => sp_fieldAddr fd33_0 (od rfl)) ?_
    refine sc (sgF rfl fun hG => sp_load ty3 (odw rfl hG)) ?_
    refine sc (sgF rfl fun hG => sp_geq (odw rfl hG) (odw rfl hG)) ?_
    refine cg (sp_pickOr (od rfl) fun hg => odw rfl (not_t hg)) ?_
    refine sn fun a w hS => ?_
    refine et ?_
    refine st_cond hS rfl (fun hb => ?_) (fun hb => ?_)
    · have h := ite_t hb h
      refine ws ?_
      refine st_reg mixed (by kernel_rfl) hS ?_
      refine cg (sp_assign (odi)) ?_
      refine sn fun a w hS => ?_
      refine et ?_
      refine wp_ret ?_
      refine exit_blockR ?_
      refine exit_thenR ?_
      cases h
      obtain rfl := hL_16 _ rfl
      have h := (elim_leave hr_18)
      refine exit_thenR ?_
      refine exit_blockR ?_
      refine exit_thenR ?_
      cases h
      exact st_ret hS (run_results1 Tryz.results29 a w) (hS.get rfl)
    have h := ite_f hb h
    refine wp_skip ?_
    refine exit_block ?_
    refine et ?_
    refine st_reg mixed (by kernel_rfl) hS ?_
    refine cg (sp_add (od rfl) (odi)) ?_
    refine mv rfl ?_
    refine sn fun a w hS => ?_
    cases h
    exact ⟨k_16, _, _, rfl, hN_16 _ rfl, hS.weak ⟨od rfl, od rfl, od rfl, od rfl, od (congrArg (fun z => some (isV (α := Int) z)) hw_16), trivial⟩⟩
  refine wp_exit ?_
  obtain rfl := for_done hF_16 hb
  have h := elim_again hr_18
  refine exit_thenE ?_
  refine exit_thenE ?_
  refine exit_here ?_
  refine et ?_
  refine ws ?_
  refine ws ?_
  refine st_reg mixed (by kernel_rfl) hS ?_
  refine cg (sp_fieldAddr fd72_1 (od rfl)) ?_
  refine cg (sp_load ty37 (od rfl)) ?_
  refine cg (sp_len Tryz.underlying37 (od rfl)) ?_
  refine cg (sp_move (odi)) ?_
  refine sn fun a w hS => ?_
  refine et ?_
  refine wp_block ?_
  obtain ⟨o_24, e_25, hr_26⟩ := bind_some h
  refine c_loop (fun K a w => ∃ k i_21 s_23, K = k + 1 ∧ ForI _ _ _ o_24 k i_21 s_23 ∧ St 79 F0 [] [(66, isV (α := List Int) p2.2), (67, isV (α := Int) (p2.2.length : Int)), (68, isV (α := Int) i_21)] w0 a w) ?_ ?_ ⟨_, _, _, rfl, for_init e_25, hS.weak ⟨od rfl, od rfl, od rfl, trivial⟩⟩
  · rintro a w ⟨_, _, _, hk, _⟩; cases hk
  rintro K a w ⟨k_24, i_21, s_23, hk, hF_24, hS⟩
  obtain rfl := Nat.succ.inj hk
  refine ws ?_
  refine st_reg mixed (by kernel_rfl) hS ?_
  refine cg (sp_lss (od rfl) (od rfl)) ?_
  refine sn fun a w hS => ?_
  refine et ?_
  refine ws ?_
  refine st_cond hS rfl (fun hb => ?_) (fun hb => ?_)
  · refine wp_skip ?_
    refine et ?_
    obtain ⟨k_24, o, rfl, h, hN_24, hL_24, hw_24⟩ := for_more hF_24 hb
    refine ws ?_
    refine wp_block ?_
    refine ws ?_
    obtain ⟨v_27, e_28, h⟩ := bind_some h
    refine st_reg mixed (by kernel_rfl) hS ?_
    refine cg (sp_indexAddr sl37 (od rfl) (od rfl) e_28) ?_
    refine cg (sp_load ty3 (od rfl)) ?_
    refine cg (sp_assign (od rfl)) ?_
    refine sn fun a w hS => ?_
    refine et ?_
    refine ws ?_
    refine st_reg mixed (by kernel_rfl) hS ?_
    refine mv rfl ?_
    refine cg (sp_lss (od rfl) (odi)) ?_
    refine mv rfl ?_
    refine sc (sgF rfl fun hG => sp_move (od rfl)) ?_
    refine sc (sgF rfl fun hG => sp_gtr (odw rfl hG) (odi)) ?_
    refine cg (sp_pickOr (od rfl) fun hg => odw rfl (not_t hg)) ?_
    refine sn fun a w hS => ?_
    refine et ?_
    refine st_cond hS rfl (fun hb => ?_) (fun hb => ?_)
    · have h := ite_t hb h
      refine ws ?_
      refine st_reg mixed (by kernel_rfl) hS ?_
      refine cg (sp_assign (odi)) ?_
      refine sn fun a w hS => ?_
      refine et ?_
      refine wp_ret ?_
      refine exit_blockR ?_
      refine exit_thenR ?_
      cases h
      obtain rfl := hL_24 _ rfl
      have h := (elim_leave hr_26)
      refine exit_thenR ?_
      refine exit_blockR ?_
      refine exit_thenR ?_
      cases h
      exact st_ret hS (run_results1 Tryz.results29 a w) (hS.get rfl)
    have h := ite_f hb h
    refine wp_skip ?_
    refine exit_block ?_
    refine et ?_
    refine st_reg mixed (by kernel_rfl) hS ?_
    refine cg (sp_add (od rfl) (odi)) ?_
    refine mv rfl ?_
    refine sn fun a w hS => ?_
    cases h
    exact ⟨k_24, _, _, rfl, hN_24 _ rfl, hS.weak ⟨od rfl, od rfl, od (congrArg (fun z => some (isV (α := Int) z)) hw_24), trivial⟩⟩
  refine wp_exit ?_
  obtain rfl := for_done hF_24 hb
  have h := elim_again hr_26
  refine exit_thenE ?_
  refine exit_thenE ?_
  refine exit_here ?_
  refine et ?_
  refine ws ?_
  refine st_reg mixed (by kernel_rfl) hS ?_
  refine cg (sp_assign (odi)) ?_
  refine sn fun a w hS => ?_
  refine et ?_
  refine wp_ret ?_
  cases h
  exact st_ret hS (run_results1 Tryz.results29 a w) (hS.get rfl)

theorem f31_ok {p0 : List Int} {r : Int} (h : M.f31 p0 = some r) : CallOK Tryz.prog 31 [isV p0] (isV r) := by
  unfold M.f31 at h
  refine callS_of Tryz.func31 rfl Tryz.ntmps31 rfl fun F0 w0 a hS => ?_
  refine ws ?_
  refine st_reg mixed (by kernel_rfl) hS ?_
  refine cg (sp_assign (odi)) ?_
  refine sn fun a w hS => ?_
  refine et ?_
  refine ws ?_
  refine ws ?_
  refine st_reg mixed (by kernel_rfl) hS ?_
  refine mv rfl ?_
  refine cg (sp_len Tryz.underlying37 (od rfl)) ?_
  refine cg (sp_move (odi)) ?_
  refine sn fun a w hS => ?_
  refine et ?_
  refine wp_block ?_
  obtain ⟨o_4, e_5, hr_6⟩ := bind_some h
  refine c_loop (fun K a w => ∃ k i_1 s_3, K = k + 1 ∧ ForT _ _ _ o_4 k i_1 s_3 ∧ St 17 F0 [] [(2, isV (α := Int) s_3), (5, isV (α := List Int) p0), (6, isV (α := Int) (p0.length : Int)), (7, isV (α := Int) i_1)] w0 a w) ?_ ?_ ⟨_, _, _, rfl, fors_init e_5, hS.weak ⟨od rfl, od rfl, od rfl, od rfl, trivial⟩⟩
  · rintro a w ⟨_, _, _, hk, _⟩; cases hk
  rintro K a w ⟨k_4, i_1, s_3, hk, hF_4, hS⟩
  obtain rfl := Nat.succ.inj hk
  refine ws ?_
  refine st_reg mixed (by kernel_rfl) hS ?_
  refine cg (sp_lss (od rfl) (od rfl)) ?_
  refine sn fun a w hS => ?_
  refine et ?_
  refine ws ?_
  refine st_cond hS rfl (fun hb => ?_) (fun hb => ?_)
  · refine wp_skip ?_
    refine et ?_
    obtain ⟨k_4, s', rfl, h, hF_4, hw_4⟩ := fors_more hF_4 hb
    refine ws ?_
    refine wp_block ?_
    refine ws ?_
    obtain ⟨v_7, e_8, h⟩ := bind_some h
    refine st_reg mixed (by kernel_rfl) hS ?_
    refine cg (sp_indexAddr sl37 (od rfl) (od rfl) e_8) ?_
    refine cg (sp_load ty3 (od rfl)) ?_
    refine cg (sp_assign (od rfl)) ?_
    refine sn fun a w hS => ?_
    refine et ?_
    obtain ⟨v_9, e_10, h⟩ := bind_some h
    refine st_reg mixed (by kernel_rfl) hS ?_
    refine mv rfl ?_
    refine mv rfl ?_
    refine cg (sp_shl (odi) (od rfl) e_10) ?_
    refine cg (sp_or (od rfl) (od rfl)) ?_
    refine cg (sp_assign (od rfl)) ?_
    refine sn fun a w hS => ?_
    refine exit_block ?_
    refine et ?_
    refine st_reg mixed (by kernel_rfl) hS ?_
    refine cg (sp_add (od rfl) (odi)) ?_
    refine mv rfl ?_
    refine sn fun a w hS => ?_
    cases h
    exact ⟨k_4, _, _, rfl, hF_4, hS.weak ⟨od rfl, od rfl, od rfl, od (congrArg (fun z => some (isV (α := Int) z)) hw_4), trivial⟩⟩
  refine wp_exit ?_
  obtain rfl := (fors_done hF_4 hb).symm
  have h := hr_6
  refine exit_thenE ?_
  refine exit_thenE ?_
  refine exit_here ?_
  refine et ?_
  refine ws ?_
  refine st_reg mixed (by kernel_rfl) hS ?_
  refine mv rfl ?_
  refine cg (sp_assign (od rfl)) ?_
  refine sn fun a w hS => ?_
  refine et ?_
  refine wp_ret ?_
  cases h
  exact st_ret hS (run_results1 Tryz.results31 a w) (hS.get rfl)

theorem f38_ok {p0 : Int} {r : (List (List Int))} (h : M.f38 p0 = some r) : CallI Tryz.prog 38 [isV p0] (resTab 37 3 r) := by
  unfold M.f38 at h
  refine callI_of Tryz.func38 rfl Tryz.ntmps38 rfl fun F0 w0 a hS => ?_
  refine ws ?_
  refine st_reg mixed (by kernel_rfl) hS ?_
  refine cg (sp_assign (odnil (α := List Int))) ?_
  refine sn fun a w hS => ?_
  refine et ?_
  refine ws ?_
  obtain ⟨q_1, e_2, h⟩ := bind_some h
  refine l_start ?_
  refine s_c hS (sg (sp_move (od rfl))) rfl fun a w hS hM => ?_
  refine s_makeT (E := 3) sl74 ze37 zv37 hS (od rfl) e_2 rfl fun a w u_3 hS hM => ?_
  have hS : St _ F0 [Item.tab (α := Int) 37 3 u_3 (ob u_3) (List.replicate (List.length q_1) (.slice none 0 0)) q_1] _ w0 _ _ := hS
  refine s_c hS (sg (sp_assign (od rfl))) rfl fun a w hS hM => ?_
  refine l_end ?_
  refine et ?_
  refine ws ?_
  refine ws ?_
  refine st_reg mixed (by kernel_rfl) hS ?_
  refine mv rfl ?_
  refine cg (sp_move (odi)) ?_
  refine sn fun a w hS => ?_
  refine et ?_
  refine wp_block ?_
  obtain ⟨o_7, e_8, hr_9⟩ := bind_some h
  refine c_loop (fun K a w => ∃ k i_4 s_6, ∃ o_10 : Nat → Bool, ∃ rs_11 : List Value, K = k + 1 ∧ ForT _ _ _ o_7 k i_4 s_6 ∧ St 30 F0 [Item.tab (α := Int) 37 3 u_3 o_10 rs_11 s_6] [(0, isV (α := Int) p0), (3, Pr.is u_3), (8, isV (α := Int) p0), (9, isV (α := Int) i_4)] w0 a w) ?_ ?_ ⟨_, _, _, (ob u_3), (List.replicate (List.length q_1) (.slice none 0 0)), rfl, fors_init e_8, hS.weak ⟨od rfl, od rfl, od rfl, od rfl, trivial⟩⟩
  · rintro a w ⟨_, _, _, _, _, hk, _⟩; cases hk
  rintro K a w ⟨k_7, i_4, s_6, o_10, rs_11, hk, hF_7, hS⟩
  obtain rfl := Nat.succ.inj hk
  refine ws ?_
  refine st_reg mixed (by kernel_rfl) hS ?_
  refine cg (sp_lss (od rfl) (od rfl)) ?_
  refine sn fun a w hS => ?_
  refine et ?_
  refine ws ?_
  refine st_cond hS rfl (fun hb => ?_) (fun hb => ?_)
  · refine wp_skip ?_
    refine et ?_
    obtain ⟨k_7, s', rfl, h, hF_7, hw_7⟩ := fors_more hF_7 hb
    refine ws ?_
    refine wp_block ?_
    refine ws ?_
    refine st_reg mixed (by kernel_rfl) hS ?_
    refine mv rfl ?_
    refine cg (sp_assign (od rfl)) ?_
    refine sn fun a w hS => ?_
    refine et ?_
    refine ws ?_
    obtain ⟨q_12, e_13, h⟩ := bind_some h
    obtain ⟨v_15, e_16, h⟩ := bind_some h
    obtain ⟨z_17, e_18, h⟩ := bind_some h
    refine l_start ?_
    refine s_c hS (sg (sp_move (od rfl))) rfl fun a w hS hM => ?_
    refine s_c hS (sg (sp_move (od rfl))) rfl fun a w hS hM => ?_
    refine s_c hS (sg (sp_move (od rfl))) rfl fun a w hS hM => ?_
    refine s_make sl37 ze3 zi3 rfl hS (od rfl) e_13 rfl fun a w u_14 hS hM => ?_
    have hS : St _ F0 [Item.tab (α := Int) 37 3 u_3 o_10 rs_11 s_6, Item.sl (α := Int) 3 u_14 q_12] _ w0 _ _ := hS
    have hS := st_tab 0 3 hS rfl rfl
    have hS := st_tab 0 12 hS rfl rfl
    refine s_c hS (sg (sp_indexAddrT Tryz.underlying74 sz37 (od rfl) (od rfl) e_16)) rfl fun a w hS hM => ?_
    have hS := st_hole 0 i_4.toNat hS rfl
    refine s_storeH (k := 0) (k2 := 1) (i := i_4) (Δ := [(0, isV (α := Int) p0), (3, Pr.is u_3), (4, isV (α := Int) i_4), (8, isV (α := Int) p0), (9, isV (α := Int) i_4), (15, Pr.is u_14), (16, isTP u_3 i_4.toNat)]) Tryz.underlying37 sz37 hS rfl rfl rfl ⟨od rfl, odTab rfl, od rfl, od rfl, od rfl, od rfl, odTP rfl, trivial⟩ ⟨fun _ _ _ _ h => h, fun _ _ _ _ h => h, fun _ _ _ _ h => h, fun _ _ _ _ h => h, fun _ _ _ _ h => h, fun _ _ _ _ h => h, fun _ _ _ _ h => h, trivial⟩ (odTP rfl) (od rfl) e_18 fun w o_19 hS hM => ?_
    have hS : St _ F0 [Item.tab (α := Int) 37 3 u_3 o_19 (List.set rs_11 i_4.toNat u_14) z_17] _ w0 _ _ := hS
    refine l_end ?_
    refine et ?_
    refine ws ?_
    refine st_reg mixed (by kernel_rfl) hS ?_
    refine mv rfl ?_
    refine cg (sp_move (odi)) ?_
    refine sn fun a w hS => ?_
    refine et ?_
    refine wp_block ?_
    obtain ⟨o_23, e_24, hr_25⟩ := bind_some h
    refine c_loop (fun K a w => ∃ k i_20 s_22, K = k + 1 ∧ ForT _ _ _ o_23 k i_20 s_22 ∧ St 30 F0 [Item.tab (α := Int) 37 3 u_3 o_19 (List.set rs_11 i_4.toNat u_14) s_22] [(0, isV (α := Int) p0), (3, Pr.is u_3), (4, isV (α := Int) i_4), (8, isV (α := Int) p0), (9, isV (α := Int) i_4), (17, isV (α := Int) p0), (18, isV (α := Int) i_20)] w0 a w) ?_ ?_ ⟨_, _, _, rfl, fors_init e_24, hS.weak ⟨od rfl, od rfl, od rfl, od rfl, od rfl, od rfl, od rfl, trivial⟩⟩
    · rintro a w ⟨_, _, _, hk, _⟩; cases hk
    rintro K a w ⟨k_23, i_20, s_22, hk, hF_23, hS⟩
    obtain rfl := Nat.succ.inj hk
    refine ws ?_
    refine st_reg mixed (by kernel_rfl) hS ?_
    refine cg (sp_lss (od rfl) (od rfl)) ?_
    refine sn fun a w hS => ?_
    refine et ?_
    refine ws ?_
    refine st_cond hS rfl (fun hb => ?_) (fun hb => ?_)
    · refine wp_skip ?_
      refine et ?_
      obtain ⟨k_23, s', rfl, h, hF_23, hw_23⟩ := fors_more hF_23 hb
      refine ws ?_
      refine wp_block ?_
      refine ws ?_
      refine st_reg mixed (by kernel_rfl) hS ?_
      refine mv rfl ?_
      refine cg (sp_assign (od rfl)) ?_
      refine sn fun a w hS => ?_
      refine et ?_
      obtain ⟨v_26, e_27, h⟩ := bind_some h
      obtain ⟨v_28, e_29, h⟩ := bind_some h
      obtain ⟨z_30, e_31, h⟩ := bind_some h
      refine l_start ?_
      refine s_c hS (sg (sp_move (od rfl))) rfl fun a w hS hM => ?_
      refine s_c hS (sg (sp_move (od rfl))) rfl fun a w hS hM => ?_
      have hS := st_tab 0 3 hS rfl rfl
      have hS := st_tab 0 21 hS rfl rfl
      refine s_c hS (sg (sp_indexAddrT Tryz.underlying74 sz37 (od rfl) (od rfl) e_27)) rfl fun a w hS hM => ?_
      refine s_c hS (sg (sp_loadTR Tryz.underlying37 (od rfl))) rfl fun a w hS hM => ?_
      refine s_c hS (sg (sp_move (od rfl))) rfl fun a w hS hM => ?_
      refine s_c hS (sg (sp_indexAddrTA sl37 (od rfl) (od rfl) e_29)) rfl fun a w hS hM => ?_
      refine s_storeTA (k := 0) (i := i_4) (j := i_20) (Δ := [(0, isV (α := Int) p0), (3, Pr.is u_3), (4, isV (α := Int) i_4), (8, isV (α := Int) p0), (9, isV (α := Int) i_4), (17, isV (α := Int) p0), (18, isV (α := Int) i_20), (26, isHA Int (List.set rs_11 i_4.toNat u_14) i_4.toNat i_20.toNat)]) ty3 hS rfl ⟨od rfl, odTab rfl, od rfl, od rfl, od rfl, od rfl, od rfl, odHA rfl, trivial⟩ ⟨fun _ _ _ _ h => h, fun _ _ _ _ h => h, fun _ _ _ _ h => h, fun _ _ _ _ h => h, fun _ _ _ _ h => h, fun _ _ _ _ h => h, fun _ _ _ _ h => h, fun _ _ _ _ h => h, trivial⟩ (odHA rfl) (odi) e_31 fun w hS hM => ?_
      have hS : St _ F0 [Item.tab (α := Int) 37 3 u_3 o_19 (List.set rs_11 i_4.toNat u_14) z_30] _ w0 _ _ := hS
      refine l_end ?_
      refine exit_block ?_
      refine et ?_
      refine st_reg mixed (by kernel_rfl) hS ?_
      refine cg (sp_add (od rfl) (odi)) ?_
      refine mv rfl ?_
      refine sn fun a w hS => ?_
      cases h
      exact ⟨k_23, _, _, rfl, hF_23, hS.weak ⟨od rfl, od rfl, od rfl, od rfl, od rfl, od rfl, od (congrArg (fun z => some (isV (α := Int) z)) hw_23), trivial⟩⟩
    refine wp_exit ?_
    obtain rfl := (fors_done hF_23 hb).symm
    have h := hr_25
    refine exit_thenE ?_
    refine exit_thenE ?_
    refine exit_here ?_
    refine exit_block ?_
    refine et ?_
    refine st_reg mixed (by kernel_rfl) hS ?_
    refine cg (sp_add (od rfl) (odi)) ?_
    refine mv rfl ?_
    refine sn fun a w hS => ?_
    cases h
    exact ⟨k_7, _, _, o_19, (List.set rs_11 i_4.toNat u_14), rfl, hF_7, hS.weak ⟨od rfl, od rfl, od rfl, od (congrArg (fun z => some (isV (α := Int) z)) hw_7), trivial⟩⟩
  refine wp_exit ?_
  obtain rfl := (fors_done hF_7 hb).symm
  have h := hr_9
  refine exit_thenE ?_
  refine exit_thenE ?_
  refine exit_here ?_
  refine et ?_
  refine ws ?_
  refine st_reg mixed (by kernel_rfl) hS ?_
  refine mv rfl ?_
  refine cg (sp_assign (od rfl)) ?_
  refine sn fun a w hS => ?_
  refine et ?_
  refine wp_ret ?_
  cases h
  exact st_retI 0 (o_10, rs_11) hS ((run_results1 Tryz.results38 a w).trans (congrArg (fun v => Result.ok v w) (hS.get (t := 2) rfl))) rfl

theorem f57_ok {p0 : Int} {r : (List Int)} (h : M.f57 p0 = some r) : CallOK Tryz.prog 57 [isV p0] (isV r) := by
  unfold M.f57 at h
  refine callS_of Tryz.func57 rfl Tryz.ntmps57 rfl fun F0 w0 a hS => ?_
  refine ws ?_
  refine st_reg mixed (by kernel_rfl) hS ?_
  refine cg (sp_assign (φ := Pr.is (.slice none 0 0)) (odc fun _ => rfl)) ?_
  refine sn fun a w hS => ?_
  have hS := st_nil (α := Int) 3 hS
  have hS : St _ F0 [Item.sl (α := Int) 3 (.slice none 0 0) ([] : List Int)] _ w0 _ _ := hS
  refine et ?_
  refine ws ?_
  refine ws ?_
  refine st_reg mixed (by kernel_rfl) hS ?_
  refine cg (sp_move (odi)) ?_
  refine sn fun a w hS => ?_
  refine et ?_
  refine wp_block ?_
  obtain ⟨o_4, e_5, hr_6⟩ := bind_some h
  refine c_loop (fun K a w => ∃ k i_1 s_3, ∃ u_7 : Value, K = k + 1 ∧ ForT _ _ _ o_4 k i_1 s_3 ∧ St 18 F0 [Item.sl (α := Int) 3 u_7 s_3] [(0, isV (α := Int) p0), (2, Pr.is u_7), (4, isV (α := Int) i_1)] w0 a w) ?_ ?_ ⟨_, _, _, (.slice none 0 0), rfl, fors_init e_5, hS.weak ⟨od rfl, od rfl, od rfl, trivial⟩⟩
  · rintro a w ⟨_, _, _, _, hk, _⟩; cases hk
  rintro K a w ⟨k_4, i_1, s_3, u_7, hk, hF_4, hS⟩
  obtain rfl := Nat.succ.inj hk
  refine ws ?_
  refine st_reg mixed (by kernel_rfl) hS ?_
  refine cg (sp_lss (od rfl) (odi)) ?_
  refine sn fun a w hS => ?_
  refine et ?_
  refine ws ?_
  refine st_cond hS rfl (fun hb => ?_) (fun hb => ?_)
  · refine wp_skip ?_
    refine et ?_
    obtain ⟨k_4, s', rfl, h, hF_4, hw_4⟩ := fors_more hF_4 hb
    refine ws ?_
    refine wp_block ?_
    refine ws ?_
    refine st_reg mixed (by kernel_rfl) hS ?_
    refine mv rfl ?_
    refine cg (sp_assign (od rfl)) ?_
    refine sn fun a w hS => ?_
    refine et ?_
    refine ws ?_
    obtain ⟨v_8, e_9, h⟩ := bind_some h
    refine st_reg mixed (by kernel_rfl) hS ?_
    refine mv rfl ?_
    refine mv rfl ?_
    refine cg (sp_shr (od rfl) (od rfl) e_9) ?_
    refine cg (sp_and (od rfl) (odi)) ?_
    refine cg (sp_eql (od rfl) (odi)) ?_
    refine sn fun a w hS => ?_
    refine et ?_
    obtain ⟨y_11, hj_10, h⟩ := bind_some h
    refine wp_mono (Q := fun e a w => e = Exit.normal ∧ ∃ u_12 : Value, St 18 F0 [Item.sl (α := Int) 3 u_12 y_11] [(0, isV (α := Int) p0), (2, Pr.is u_12), (4, isV (α := Int) i_1)] w0 a w) ?_ ?_
    · refine st_cond hS rfl (fun hb => ?_) (fun hb => ?_)
      · have h := ite_t hb hj_10
        obtain ⟨z_13, e_14, h⟩ := bind_some h
        refine l_start ?_
        refine s_c hS (sg (sp_move (od rfl))) rfl fun a w hS hM => ?_
        refine s_c hS (sg (sp_move (od rfl))) rfl fun a w hS hM => ?_
        refine s_c hS (sg (sp_buildSlice [.tmp 13] ([i_1] : List Int) sl37 ze3 rfl rfl rfl rfl ⟨od rfl, trivial⟩)) rfl fun a w hS hM => ?_
        refine s_append (k := 0) (Δ := [(0, isV (α := Int) p0), (4, isV (α := Int) i_1), (12, Pr.is u_7), (14, isV (α := List Int) ([i_1] : List Int))]) sl37 ze3 hS rfl ⟨od rfl, od rfl, od rfl, od rfl, trivial⟩ ⟨fun _ _ _ _ h => h, fun _ _ _ _ h => h, fun _ _ _ _ h => h, fun _ _ _ _ h => h, trivial⟩ (od rfl) (od rfl) e_14 rfl fun a w u_15 hS hM => ?_
        have hS : St _ F0 [Item.sl (α := Int) 3 u_15 z_13] _ w0 _ _ := hS
        refine s_c hS (sg (sp_assign (od rfl))) rfl fun a w hS hM => ?_
        refine l_end ?_
        cases h
        exact ⟨rfl, u_15, hS.weak ⟨od rfl, od rfl, od rfl, trivial⟩⟩
      have h := ite_f hb hj_10
      refine wp_skip ?_
      cases h
      exact ⟨rfl, u_7, hS.weak ⟨od rfl, od rfl, od rfl, trivial⟩⟩
    rintro e a w ⟨rfl, u_12, hS⟩
    refine exit_block ?_
    refine et ?_
    refine st_reg mixed (by kernel_rfl) hS ?_
    refine cg (sp_add (od rfl) (odi)) ?_
    refine mv rfl ?_
    refine sn fun a w hS => ?_
    cases h
    exact ⟨k_4, _, _, u_12, rfl, hF_4, hS.weak ⟨od rfl, od rfl, od (congrArg (fun z => some (isV (α := Int) z)) hw_4), trivial⟩⟩
  refine wp_exit ?_
  obtain rfl := (fors_done hF_4 hb).symm
  have h := hr_6
  refine exit_thenE ?_
  refine exit_thenE ?_
  refine exit_here ?_
  refine et ?_
  refine ws ?_
  refine st_reg mixed (by kernel_rfl) hS ?_
  refine mv rfl ?_
  refine cg (sp_assign (od rfl)) ?_
  refine sn fun a w hS => ?_
  refine et ?_
  refine wp_ret ?_
  have hS0 := hS
  have hS := st_freeze 0 2 hS rfl rfl
  have hS := st_also (t := 2) (q := 17) hS0 hS rfl rfl rfl
  cases h
  exact st_ret hS (run_results1 Tryz.results57 a w) (hS.get rfl)

theorem f46_ok {p0 : S_api_Market} {p1 : Int} {r : (List (List Int))} (h : M.f46 p0 p1 = some r) : CallI Tryz.prog 46 [isV p0, isV p1] (resTab 37 3 r) := by
  unfold M.f46 at h
  refine callI_of Tryz.func46 rfl Tryz.ntmps46 rfl fun F0 w0 a hS => ?_
  refine ws ?_
  refine st_reg mixed (by kernel_rfl) hS ?_
  refine cg (sp_box (od rfl)) ?_
  refine cg (sp_assign (odnil (α := List Int))) ?_
  refine sn fun a w hS => ?_
  refine et ?_
  refine ws ?_
  obtain ⟨m_1, e_2, h⟩ := bind_some h
  refine l_start ?_
  refine s_c hS (sg (sp_fieldAddr fd33_0 (od rfl))) rfl fun a w hS hM => ?_
  refine s_c hS (sg (sp_load ty3 (od rfl))) rfl fun a w hS hM => ?_
  refine s_callI en38 (f38_ok e_2) hS ⟨od rfl, trivial⟩ rfl fun a w u_3 x_4 hS hM => ?_
  have hS : St _ F0 [Item.tab (α := Int) 37 3 u_3 x_4.1 x_4.2 m_1] _ w0 _ _ := hS
  refine s_c hS (sg (sp_assign (od rfl))) rfl fun a w hS hM => ?_
  refine l_end ?_
  refine et ?_
  refine ws ?_
  obtain ⟨m_5, e_6, h⟩ := bind_some h
  refine l_start ?_
  refine s_c hS (sg (sp_fieldAddr fd33_1 (od rfl))) rfl fun a w hS hM => ?_
  refine s_c hS (sg (sp_load ty31 (od rfl))) rfl fun a w hS hM => ?_
  refine s_callI en65 (f65_ok e_6) hS ⟨od rfl, trivial⟩ rfl fun a w u_7 x_8 hS hM => ?_
  have hS : St _ F0 [Item.tab (α := Int) 37 3 u_3 x_4.1 x_4.2 m_1, Item.sl (α := S_api_Offer) 23 u_7 m_5] _ w0 _ _ := hS
  refine s_c hS (sg (sp_assign (od rfl))) rfl fun a w hS hM => ?_
  refine l_end ?_
  refine et ?_
  refine ws ?_
  refine ws ?_
  obtain ⟨v_9, e_10, h⟩ := bind_some h
  refine st_reg mixed (by kernel_rfl) hS ?_
  refine mv rfl ?_
  refine cg (sp_call en57 (f57_ok e_10) ⟨od rfl, trivial⟩) ?_
  refine cg (sp_len Tryz.underlying37 (od rfl)) ?_
  refine cg (sp_move (odi)) ?_
  refine sn fun a w hS => ?_
  refine et ?_
  refine wp_block ?_
  obtain ⟨o_14, e_15, hr_16⟩ := bind_some h
  refine c_loop (fun K a w => ∃ k i_11 s_13, ∃ u_17 : Value, K = k + 1 ∧ ForT _ _ _ o_14 k i_11 s_13 ∧ St 72 F0 [Item.tab (α := Int) 37 3 u_3 x_4.1 x_4.2 m_1, Item.sl (α := S_api_Offer) 23 u_17 s_13] [(2, isA (α := S_api_Market) p0), (5, Pr.is u_3), (6, Pr.is u_17), (19, isV (α := List Int) v_9), (20, isV (α := Int) (v_9.length : Int)), (21, isV (α := Int) i_11)] w0 a w) ?_ ?_ ⟨_, _, _, u_7, rfl, fors_init e_15, hS.weak ⟨od rfl, od rfl, od rfl, od rfl, od rfl, od rfl, trivial⟩⟩
  · rintro a w ⟨_, _, _, _, hk, _⟩; cases hk
  rintro K a w ⟨k_14, i_11, s_13, u_17, hk, hF_14, hS⟩
  obtain rfl := Nat.succ.inj hk
  refine ws ?_
  refine st_reg mixed (by kernel_rfl) hS ?_
  refine cg (sp_lss (od rfl) (od rfl)) ?_
  refine sn fun a w hS => ?_
  refine et ?_
  refine ws ?_
  refine st_cond hS rfl (fun hb => ?_) (fun hb => ?_)
  · refine wp_skip ?_
    refine et ?_
    obtain ⟨k_14, s', rfl, h, hF_14, hw_14⟩ := fors_more hF_14 hb
    refine ws ?_
    refine wp_block ?_
    refine ws ?_
    obtain ⟨v_18, e_19, h⟩ := bind_some h
    refine st_reg mixed (by kernel_rfl) hS ?_
    refine cg (sp_indexAddr sl37 (od rfl) (od rfl) e_19) ?_
    refine cg (sp_load ty3 (od rfl)) ?_
    refine cg (sp_assign (od rfl)) ?_
    refine sn fun a w hS => ?_
    refine et ?_
    obtain ⟨v_20, e_21, h⟩ := bind_some h
    obtain ⟨z_22, e_23, h⟩ := bind_some h
    refine l_start ?_
    refine s_c hS (sg (sp_move (od rfl))) rfl fun a w hS hM => ?_
    refine s_c hS (sg (sp_fieldAddr fd33_2 (od rfl))) rfl fun a w hS hM => ?_
    refine s_c hS (sg (sp_load ty31 (od rfl))) rfl fun a w hS hM => ?_
    refine s_c hS (sg (sp_move (od rfl))) rfl fun a w hS hM => ?_
    refine s_c hS (sg (sp_indexAddr sl31 (od rfl) (od rfl) e_21)) rfl fun a w hS hM => ?_
    refine s_c hS (sg (sp_load ty23 (od rfl))) rfl fun a w hS hM => ?_
    refine s_c hS (sg (sp_buildSlice [.tmp 30] ([v_20] : List S_api_Offer) sl31 ze23 rfl rfl rfl rfl ⟨od rfl, trivial⟩)) rfl fun a w hS hM => ?_
    refine s_append (k := 1) (Δ := [(2, isA (α := S_api_Market) p0), (5, Pr.is u_3), (19, isV (α := List Int) v_9), (20, isV (α := Int) (v_9.length : Int)), (21, isV (α := Int) i_11), (25, Pr.is u_17), (31, isV (α := List S_api_Offer) ([v_20] : List S_api_Offer))]) sl31 ze23 hS rfl ⟨od rfl, od rfl, od rfl, od rfl, od rfl, od rfl, od rfl, trivial⟩ ⟨fun _ _ _ _ h => h, fun _ _ _ _ h => h, fun _ _ _ _ h => h, fun _ _ _ _ h => h, fun _ _ _ _ h => h, fun _ _ _ _ h => h, fun _ _ _ _ h => h, trivial⟩ (od rfl) (od rfl) e_23 rfl fun a w u_24 hS hM => ?_
    have hS : St _ F0 [Item.tab (α := Int) 37 3 u_3 x_4.1 x_4.2 m_1, Item.sl (α := S_api_Offer) 23 u_24 z_22] _ w0 _ _ := hS
    refine s_c hS (sg (sp_assign (od rfl))) rfl fun a w hS hM => ?_
    refine l_end ?_
    refine exit_block ?_
    refine et ?_
    refine st_reg mixed (by kernel_rfl) hS ?_
    refine cg (sp_add (od rfl) (odi)) ?_
    refine mv rfl ?_
    refine sn fun a w hS => ?_
    cases h
    exact ⟨k_14, _, _, u_24, rfl, hF_14, hS.weak ⟨od rfl, od rfl, od rfl, od rfl, od rfl, od (congrArg (fun z => some (isV (α := Int) z)) hw_14), trivial⟩⟩
  refine wp_exit ?_
  obtain rfl := (fors_done hF_14 hb).symm
  have h := hr_16
  refine exit_thenE ?_
  refine exit_thenE ?_
  refine exit_here ?_
  refine et ?_
  refine ws ?_
  refine ws ?_
  have hS := st_os 1 6 hS rfl rfl
  refine st_reg mixed (by kernel_rfl) hS ?_
  refine mv rfl ?_
  refine cg (sp_lenOS Tryz.underlying31 (od rfl)) ?_
  refine cg (sp_move (odi)) ?_
  refine sn fun a w hS => ?_
  refine et ?_
  refine wp_block ?_
  have hS := hS.weak (Δ := [(5, Pr.is u_3), (34, Pr.is u_17), (35, isV (α := Int) (s_13.length : Int)), (36, isV (α := Int) 0)]) ⟨od rfl, odOS rfl, od rfl, od rfl, trivial⟩
  obtain ⟨o_28, e_29, hr_30⟩ := bind_some h
  refine c_loop (fun K a w => ∃ k i_25 s_27, K = k + 1 ∧ ForT _ _ _ o_28 k i_25 s_27 ∧ St 72 F0 [Item.tab (α := Int) 37 3 u_3 x_4.1 x_4.2 s_27, Item.sl (α := S_api_Offer) 23 u_17 s_13] [(5, Pr.is u_3), (34, Pr.is u_17), (35, isV (α := Int) (s_13.length : Int)), (36, isV (α := Int) i_25)] w0 a w) ?_ ?_ ⟨_, _, _, rfl, fors_init e_29, hS.weak ⟨od rfl, od rfl, od rfl, od rfl, trivial⟩⟩
  · rintro a w ⟨_, _, _, hk, _⟩; cases hk
  rintro K a w ⟨k_28, i_25, s_27, hk, hF_28, hS⟩
  obtain rfl := Nat.succ.inj hk
  refine ws ?_
  refine st_reg mixed (by kernel_rfl) hS ?_
  refine cg (sp_lss (od rfl) (od rfl)) ?_
  refine sn fun a w hS => ?_
  refine et ?_
  refine ws ?_
  refine st_cond hS rfl (fun hb => ?_) (fun hb => ?_)
  · refine wp_skip ?_
    refine et ?_
    obtain ⟨k_28, s', rfl, h, hF_28, hw_28⟩ := fors_more hF_28 hb
    refine ws ?_
    refine wp_block ?_
    refine ws ?_
    obtain ⟨v_31, e_32, h⟩ := bind_some h
    refine l_start ?_
    have hS := st_os 1 34 hS rfl rfl
    refine s_c hS (sg (sp_indexAddrOS sl31 (od rfl) (od rfl) e_32)) rfl fun a w hS hM => ?_
    refine s_c hS (sg (sp_loadEA ty23 (od rfl))) rfl fun a w hS hM => ?_
    refine s_allocStore ze23 hS (od rfl) (fun k hk => by cases hk; rfl) rfl fun a w hS hM => ?_
    refine l_end ?_
    refine et ?_
    refine ws ?_
    have hS := st_tab 0 5 hS rfl rfl
    obtain ⟨v_33, e_34, h⟩ := bind_some h
    obtain ⟨v_35, e_36, h⟩ := bind_some h
    refine st_reg mixed (by kernel_rfl) hS ?_
    refine mv rfl ?_
    refine cg (sp_fieldAddr fd23_0 (od rfl)) ?_
    refine cg (sp_load ty3 (od rfl)) ?_
    refine cg (sp_indexAddrT Tryz.underlying74 sz37 (od rfl) (od rfl) e_34) ?_
    refine cg (sp_loadTR Tryz.underlying37 (od rfl)) ?_
    refine cg (sp_fieldAddr fd23_1 (od rfl)) ?_
    refine cg (sp_load ty3 (od rfl)) ?_
    refine cg (sp_indexAddrTA sl37 (od rfl) (od rfl) e_36) ?_
    refine cg (sp_loadTA ty3 (od rfl)) ?_
    refine cg (sp_fieldAddr fd23_3 (od rfl)) ?_
    refine cg (sp_load ty3 (od rfl)) ?_
    refine cg (sp_min (od rfl) (od rfl)) ?_
    refine cg (sp_assign (od rfl)) ?_
    refine sn fun a w hS => ?_
    refine et ?_
    obtain ⟨v_37, e_38, h⟩ := bind_some h
    obtain ⟨v_39, e_40, h⟩ := bind_some h
    obtain ⟨v_41, e_42, h⟩ := bind_some h
    obtain ⟨z_43, e_44, h⟩ := bind_some h
    obtain ⟨v_45, e_46, h⟩ := bind_some h
    obtain ⟨z_47, e_48, h⟩ := bind_some h
    refine st_float mixed [0, 0, 0, 0, 0, 0, 0, 0, 0, 0, 0, 0, 1, 1, 0, 1, 0, 2, 2, 2] (by kernel_rfl) (by kernel_rfl) hS ?_
    refine sfA (sg (sp_move (od rfl))) ?_
    refine sfA (sg (sp_fieldAddr fd23_0 (od rfl))) ?_
    refine sfA (sg (sp_load ty3 (od rfl))) ?_
    refine sfA (sg (sp_indexAddrT Tryz.underlying74 sz37 (od rfl) (od rfl) e_38)) ?_
    refine sfA (sg (sp_loadTR Tryz.underlying37 (od rfl))) ?_
    refine sfA (sg (sp_fieldAddr fd23_1 (od rfl))) ?_
    refine sfA (sg (sp_load ty3 (od rfl))) ?_
    refine sfA (sg (sp_move (od rfl))) ?_
    refine sfA (sg (sp_fieldAddr fd23_1 (od rfl))) ?_
    refine sfA (sg (sp_load ty3 (od rfl))) ?_
    refine sfA (sg (sp_indexAddrT Tryz.underlying74 sz37 (od rfl) (od rfl) e_40)) ?_
    refine sfA (sg (sp_loadTR Tryz.underlying37 (od rfl))) ?_
    refine sfF (sy (sy_fieldAddr fd23_0 (od rfl))) ?_
    refine sfF (sy (sy_load ty3 (od rfl))) ?_
    refine sfA (sg (sp_move (od rfl))) ?_
    refine sfF (sy (sy_move (od rfl))) ?_
    refine sfA (sg (sp_indexAddrTA sl37 (od rfl) (od rfl) e_42)) ?_
    refine sfT ?_
    refine sfT ?_
    refine sfT ?_
    refine sfN fun c a w hS hC => ?_
    refine ls ?_
    refine s_storeTA (k := 0) (i := v_31.1) (j := v_31.2.1) (Δ := [(5, Pr.is u_3), (34, Pr.is u_17), (35, isV (α := Int) (s_13.length : Int)), (36, isV (α := Int) i_25), (63, isTHn x_4.2 v_31.2.1.toNat (List.length v_39)), (65, isV (α := Int) v_31.1), (66, isV (α := Int) (imin v_35 v_31.2.2.2)), (67, isV (α := Int) (imin v_35 v_31.2.2.2)), (68, isHA Int x_4.2 v_31.1.toNat v_31.2.1.toNat)]) ty3 hS rfl ⟨odTab rfl, odOS rfl, od rfl, od rfl, odTHn rfl, od rfl, od rfl, od rfl, odHA rfl, trivial⟩ ⟨fun _ _ _ _ h => h, fun _ _ _ _ h => h, fun _ _ _ _ h => h, fun _ _ _ _ h => h, fun _ _ _ _ h => h, fun _ _ _ _ h => h, fun _ _ _ _ h => h, fun _ _ _ _ h => h, fun _ _ _ _ h => h, trivial⟩ (odHA rfl) (od rfl) e_44 fun w hS hM => ?_
    have hS : St _ F0 [Item.tab (α := Int) 37 3 u_3 x_4.1 x_4.2 z_43, Item.sl (α := S_api_Offer) 23 u_17 s_13] _ w0 _ _ := hS
    have hC := Mem.le_trans hC hM
    refine s_next hC ?_
    refine ls ?_
    refine s_c hS (sg (sp_indexAddrTHn sl37 (od rfl) (od rfl) e_46)) rfl fun a w hS hM => ?_
    have hC := Mem.le_trans hC hM
    refine s_next hC ?_
    refine ls ?_
    refine s_storeTA (k := 0) (i := v_31.2.1) (j := v_31.1) (Δ := [(5, Pr.is u_3), (34, Pr.is u_17), (35, isV (α := Int) (s_13.length : Int)), (36, isV (α := Int) i_25), (67, isV (α := Int) (imin v_35 v_31.2.2.2)), (69, isHA Int x_4.2 v_31.2.1.toNat v_31.1.toNat)]) ty3 hS rfl ⟨od rfl, od rfl, od rfl, od rfl, od rfl, od rfl, trivial⟩ ⟨fun _ _ _ _ h => h, fun _ _ _ _ h => h, fun _ _ _ _ h => h, fun _ _ _ _ h => h, fun _ _ _ _ h => h, fun _ _ _ _ h => h, trivial⟩ (od rfl) (od rfl) e_48 fun w hS hM => ?_
    have hS : St _ F0 [Item.tab (α := Int) 37 3 u_3 x_4.1 x_4.2 z_47, Item.sl (α := S_api_Offer) 23 u_17 s_13] _ w0 _ _ := hS
    have hC := Mem.le_trans hC hM
    refine s_next hC ?_
    refine s_done ?_
    refine exit_block ?_
    refine et ?_
    refine st_reg mixed (by kernel_rfl) hS ?_
    refine cg (sp_add (od rfl) (odi)) ?_
    refine mv rfl ?_
    refine sn fun a w hS => ?_
    cases h
    exact ⟨k_28, _, _, rfl, hF_28, hS.weak ⟨od rfl, od rfl, od rfl, od (congrArg (fun z => some (isV (α := Int) z)) hw_28), trivial⟩⟩
  refine wp_exit ?_
  obtain rfl := (fors_done hF_28 hb).symm
  have h := hr_30
  refine exit_thenE ?_
  refine exit_thenE ?_
  refine exit_here ?_
  refine et ?_
  refine ws ?_
  have hS := st_drop 1 hS
  refine st_reg mixed (by kernel_rfl) hS ?_
  refine mv rfl ?_
  refine cg (sp_assign (od rfl)) ?_
  refine sn fun a w hS => ?_
  refine et ?_
  refine wp_ret ?_
  cases h
  exact st_retI 0 (x_4.1, x_4.2) hS ((run_results1 Tryz.results46 a w).trans (congrArg (fun v => Result.ok v w) (hS.get (t := 4) rfl))) rfl

theorem f30_ok {p0 : S_api_Market} {p1 : Int} {r : (List (List Int))} (h : M.f30 p0 p1 = some r) : CallOK Tryz.prog 30 [isV p0, isV p1] (isV r) := by
  unfold M.f30 at h
  refine callS_of Tryz.func30 rfl Tryz.ntmps30 rfl fun F0 w0 a hS => ?_
  refine ws ?_
  refine st_reg mixed (by kernel_rfl) hS ?_
  refine cg (sp_box (od rfl)) ?_
  refine cg (sp_assign (odnil (α := List Int))) ?_
  refine sn fun a w hS => ?_
  refine et ?_
  refine ws ?_
  obtain ⟨m_1, e_2, h⟩ := bind_some h
  refine l_start ?_
  refine s_c hS (sg (sp_load ty33 (od rfl))) rfl fun a w hS hM => ?_
  refine s_c hS (sg (sp_move (od rfl))) rfl fun a w hS hM => ?_
  refine s_callI en46 (f46_ok e_2) hS ⟨od rfl, od rfl, trivial⟩ rfl fun a w u_3 x_4 hS hM => ?_
  have hS : St _ F0 [Item.tab (α := Int) 37 3 u_3 x_4.1 x_4.2 m_1] _ w0 _ _ := hS
  refine s_c hS (sg (sp_assign (od rfl))) rfl fun a w hS hM => ?_
  refine l_end ?_
  refine et ?_
  refine ws ?_
  refine ws ?_
  refine st_reg mixed (by kernel_rfl) hS ?_
  refine cg (sp_fieldAddr fd33_0 (od rfl)) ?_
  refine cg (sp_load ty3 (od rfl)) ?_
  refine cg (sp_move (odi)) ?_
  refine sn fun a w hS => ?_
  refine et ?_
  refine wp_block ?_
  obtain ⟨o_8, e_9, hr_10⟩ := bind_some h
  refine c_loop (fun K a w => ∃ k i_5 s_7, K = k + 1 ∧ ForT _ _ _ o_8 k i_5 s_7 ∧ St 76 F0 [Item.tab (α := Int) 37 3 u_3 x_4.1 x_4.2 s_7] [(2, isA (α := S_api_Market) p0), (5, Pr.is u_3), (15, isV (α := Int) p0.1), (16, isV (α := Int) i_5)] w0 a w) ?_ ?_ ⟨_, _, _, rfl, fors_init e_9, hS.weak ⟨od rfl, od rfl, od rfl, od rfl, trivial⟩⟩
  · rintro a w ⟨_, _, _, hk, _⟩; cases hk
  rintro K a w ⟨k_8, i_5, s_7, hk, hF_8, hS⟩
  obtain rfl := Nat.succ.inj hk
  refine ws ?_
  refine st_reg mixed (by kernel_rfl) hS ?_
  refine cg (sp_lss (od rfl) (od rfl)) ?_
  refine sn fun a w hS => ?_
  refine et ?_
  refine ws ?_
  refine st_cond hS rfl (fun hb => ?_) (fun hb => ?_)
  · refine wp_skip ?_
    refine et ?_
    obtain ⟨k_8, s', rfl, h, hF_8, hw_8⟩ := fors_more hF_8 hb
    refine ws ?_
    refine wp_block ?_
    refine ws ?_
    refine st_reg mixed (by kernel_rfl) hS ?_
    refine mv rfl ?_
    refine cg (sp_assign (od rfl)) ?_
    refine sn fun a w hS => ?_
    refine et ?_
    obtain ⟨v_11, e_12, h⟩ := bind_some h
    obtain ⟨v_13, e_14, h⟩ := bind_some h
    obtain ⟨z_15, e_16, h⟩ := bind_some h
    refine l_start ?_
    refine s_c hS (sg (sp_move (od rfl))) rfl fun a w hS hM => ?_
    refine s_c hS (sg (sp_move (od rfl))) rfl fun a w hS hM => ?_
    have hS := st_tab 0 5 hS rfl rfl
    have hS := st_tab 0 19 hS rfl rfl
    refine s_c hS (sg (sp_indexAddrT Tryz.underlying74 sz37 (od rfl) (od rfl) e_12)) rfl fun a w hS hM => ?_
    refine s_c hS (sg (sp_loadTR Tryz.underlying37 (od rfl))) rfl fun a w hS hM => ?_
    refine s_c hS (sg (sp_move (od rfl))) rfl fun a w hS hM => ?_
    refine s_c hS (sg (sp_indexAddrTA sl37 (od rfl) (od rfl) e_14)) rfl fun a w hS hM => ?_
    refine s_storeTA (k := 0) (i := i_5) (j := i_5) (Δ := [(2, isA (α := S_api_Market) p0), (5, Pr.is u_3), (15, isV (α := Int) p0.1), (16, isV (α := Int) i_5), (24, isHA Int x_4.2 i_5.toNat i_5.toNat)]) ty3 hS rfl ⟨od rfl, odTab rfl, od rfl, od rfl, odHA rfl, trivial⟩ ⟨fun _ _ _ _ h => h, fun _ _ _ _ h => h, fun _ _ _ _ h => h, fun _ _ _ _ h => h, fun _ _ _ _ h => h, trivial⟩ (odHA rfl) (odi) e_16 fun w hS hM => ?_
    have hS : St _ F0 [Item.tab (α := Int) 37 3 u_3 x_4.1 x_4.2 z_15] _ w0 _ _ := hS
    refine l_end ?_
    refine exit_block ?_
    refine et ?_
    refine st_reg mixed (by kernel_rfl) hS ?_
    refine cg (sp_add (od rfl) (odi)) ?_
    refine mv rfl ?_
    refine sn fun a w hS => ?_
    cases h
    exact ⟨k_8, _, _, rfl, hF_8, hS.weak ⟨od rfl, od rfl, od rfl, od (congrArg (fun z => some (isV (α := Int) z)) hw_8), trivial⟩⟩
  refine wp_exit ?_
  obtain rfl := (fors_done hF_8 hb).symm
  have h := hr_10
  refine exit_thenE ?_
  refine exit_thenE ?_
  refine exit_here ?_
  refine et ?_
  refine ws ?_
  refine ws ?_
  refine st_reg mixed (by kernel_rfl) hS ?_
  refine cg (sp_fieldAddr fd33_0 (od rfl)) ?_
  refine cg (sp_load ty3 (od rfl)) ?_
  refine cg (sp_move (odi)) ?_
  refine sn fun a w hS => ?_
  refine et ?_
  refine wp_block ?_
  obtain ⟨o_20, e_21, hr_22⟩ := bind_some h
  refine c_loop (fun K a w => ∃ k i_17 s_19, K = k + 1 ∧ ForT _ _ _ o_20 k i_17 s_19 ∧ St 76 F0 [Item.tab (α := Int) 37 3 u_3 x_4.1 x_4.2 s_19] [(2, isA (α := S_api_Market) p0), (5, Pr.is u_3), (27, isV (α := Int) p0.1), (28, isV (α := Int) i_17)] w0 a w) ?_ ?_ ⟨_, _, _, rfl, fors_init e_21, hS.weak ⟨od rfl, od rfl, od rfl, od rfl, trivial⟩⟩
  · rintro a w ⟨_, _, _, hk, _⟩; cases hk
  rintro K a w ⟨k_20, i_17, s_19, hk, hF_20, hS⟩
  obtain rfl := Nat.succ.inj hk
  refine ws ?_
  refine st_reg mixed (by kernel_rfl) hS ?_
  refine cg (sp_lss (od rfl) (od rfl)) ?_
  refine sn fun a w hS => ?_
  refine et ?_
  refine ws ?_
  refine st_cond hS rfl (fun hb => ?_) (fun hb => ?_)
  · refine wp_skip ?_
    refine et ?_
    obtain ⟨k_20, s', rfl, h, hF_20, hw_20⟩ := fors_more hF_20 hb
    refine ws ?_
    refine wp_block ?_
    refine ws ?_
    refine st_reg mixed (by kernel_rfl) hS ?_
    refine mv rfl ?_
    refine cg (sp_assign (od rfl)) ?_
    refine sn fun a w hS => ?_
    refine et ?_
    refine ws ?_
    refine st_reg mixed (by kernel_rfl) hS ?_
    refine cg (sp_fieldAddr fd33_0 (od rfl)) ?_
    refine cg (sp_load ty3 (od rfl)) ?_
    refine cg (sp_move (odi)) ?_
    refine sn fun a w hS => ?_
    refine et ?_
    refine wp_block ?_
    obtain ⟨o_26, e_27, hr_28⟩ := bind_some h
    refine c_loop (fun K a w => ∃ k i_23 s_25, K = k + 1 ∧ ForT _ _ _ o_26 k i_23 s_25 ∧ St 76 F0 [Item.tab (α := Int) 37 3 u_3 x_4.1 x_4.2 s_25] [(2, isA (α := S_api_Market) p0), (5, Pr.is u_3), (7, isV (α := Int) i_17), (27, isV (α := Int) p0.1), (28, isV (α := Int) i_17), (32, isV (α := Int) p0.1), (33, isV (α := Int) i_23)] w0 a w) ?_ ?_ ⟨_, _, _, rfl, fors_init e_27, hS.weak ⟨od rfl, od rfl, od rfl, od rfl, od rfl, od rfl, od rfl, trivial⟩⟩
    · rintro a w ⟨_, _, _, hk, _⟩; cases hk
    rintro K a w ⟨k_26, i_23, s_25, hk, hF_26, hS⟩
    obtain rfl := Nat.succ.inj hk
    refine ws ?_
    refine st_reg mixed (by kernel_rfl) hS ?_
    refine cg (sp_lss (od rfl) (od rfl)) ?_
    refine sn fun a w hS => ?_
    refine et ?_
    refine ws ?_
    refine st_cond hS rfl (fun hb => ?_) (fun hb => ?_)
    · refine wp_skip ?_
      refine et ?_
      obtain ⟨k_26, s', rfl, h, hF_26, hw_26⟩ := fors_more hF_26 hb
      refine ws ?_
      refine wp_block ?_
      refine ws ?_
      refine st_reg mixed (by kernel_rfl) hS ?_
      refine mv rfl ?_
      refine cg (sp_assign (od rfl)) ?_
      refine sn fun a w hS => ?_
      refine et ?_
      refine ws ?_
      refine st_reg mixed (by kernel_rfl) hS ?_
      refine cg (sp_fieldAddr fd33_0 (od rfl)) ?_
      refine cg (sp_load ty3 (od rfl)) ?_
      refine cg (sp_move (odi)) ?_
      refine sn fun a w hS => ?_
      refine et ?_
      refine wp_block ?_
      obtain ⟨o_32, e_33, hr_34⟩ := bind_some h
      refine c_loop (fun K a w => ∃ k i_29 s_31, K = k + 1 ∧ ForT _ _ _ o_32 k i_29 s_31 ∧ St 76 F0 [Item.tab (α := Int) 37 3 u_3 x_4.1 x_4.2 s_31] [(2, isA (α := S_api_Market) p0), (5, Pr.is u_3), (7, isV (α := Int) i_17), (8, isV (α := Int) i_23), (27, isV (α := Int) p0.1), (28, isV (α := Int) i_17), (32, isV (α := Int) p0.1), (33, isV (α := Int) i_23), (37, isV (α := Int) p0.1), (38, isV (α := Int) i_29)] w0 a w) ?_ ?_ ⟨_, _, _, rfl, fors_init e_33, hS.weak ⟨od rfl, od rfl, od rfl, od rfl, od rfl, od rfl, od rfl, od rfl, od rfl, od rfl, trivial⟩⟩
      · rintro a w ⟨_, _, _, hk, _⟩; cases hk
      rintro K a w ⟨k_32, i_29, s_31, hk, hF_32, hS⟩
      obtain rfl := Nat.succ.inj hk
      refine ws ?_
      refine st_reg mixed (by kernel_rfl) hS ?_
      refine cg (sp_lss (od rfl) (od rfl)) ?_
      refine sn fun a w hS => ?_
      refine et ?_
      refine ws ?_
      refine st_cond hS rfl (fun hb => ?_) (fun hb => ?_)
      · refine wp_skip ?_
        refine et ?_
        obtain ⟨k_32, s', rfl, h, hF_32, hw_32⟩ := fors_more hF_32 hb
        refine ws ?_
        refine wp_block ?_
        refine ws ?_
        refine st_reg mixed (by kernel_rfl) hS ?_
        refine mv rfl ?_
        refine cg (sp_assign (od rfl)) ?_
        refine sn fun a w hS => ?_
        refine et ?_
        refine ws ?_
        have hS := st_tab 0 5 hS rfl rfl
        obtain ⟨v_35, e_36, h⟩ := bind_some h
        obtain ⟨v_37, e_38, h⟩ := bind_some h
        obtain ⟨v_39, e_40, h⟩ := bind_some h
        obtain ⟨v_41, e_42, h⟩ := bind_some h
        refine st_reg mixed (by kernel_rfl) hS ?_
        refine mv rfl ?_
        refine mv rfl ?_
        refine cg (sp_indexAddrT Tryz.underlying74 sz37 (od rfl) (od rfl) e_36) ?_
        refine cg (sp_loadTR Tryz.underlying37 (od rfl)) ?_
        refine mv rfl ?_
        refine cg (sp_indexAddrTA sl37 (od rfl) (od rfl) e_38) ?_
        refine cg (sp_loadTA ty3 (od rfl)) ?_
        refine mv rfl ?_
        refine mv rfl ?_
        refine cg (sp_indexAddrT Tryz.underlying74 sz37 (od rfl) (od rfl) e_40) ?_
        refine cg (sp_loadTR Tryz.underlying37 (od rfl)) ?_
        refine mv rfl ?_
        refine cg (sp_indexAddrTA sl37 (od rfl) (od rfl) e_42) ?_
        refine cg (sp_loadTA ty3 (od rfl)) ?_
        refine cg (sp_add (od rfl) (od rfl)) ?_
        refine cg (sp_assign (od rfl)) ?_
        refine sn fun a w hS => ?_
        refine et ?_
        refine ws ?_
        obtain ⟨v_43, e_44, h⟩ := bind_some h
        obtain ⟨v_45, e_46, h⟩ := bind_some h
        refine st_reg mixed (by kernel_rfl) hS ?_
        refine mv rfl ?_
        refine mv rfl ?_
        refine mv rfl ?_
        refine cg (sp_indexAddrT Tryz.underlying74 sz37 (od rfl) (od rfl) e_44) ?_
        refine cg (sp_loadTR Tryz.underlying37 (od rfl)) ?_
        refine mv rfl ?_
        refine cg (sp_indexAddrTA sl37 (od rfl) (od rfl) e_46) ?_
        refine cg (sp_loadTA ty3 (od rfl)) ?_
        refine cg (sp_lss (od rfl) (od rfl)) ?_
        refine sn fun a w hS => ?_
        refine et ?_
        obtain ⟨y_48, hj_47, h⟩ := bind_some h
        refine wp_mono (Q := fun e a w => e = Exit.normal ∧ St 76 F0 [Item.tab (α := Int) 37 3 u_3 x_4.1 x_4.2 y_48] [(2, isA (α := S_api_Market) p0), (5, Pr.is u_3), (7, isV (α := Int) i_17), (8, isV (α := Int) i_23), (27, isV (α := Int) p0.1), (28, isV (α := Int) i_17), (32, isV (α := Int) p0.1), (33, isV (α := Int) i_23), (37, isV (α := Int) p0.1), (38, isV (α := Int) i_29)] w0 a w) ?_ ?_
        · refine st_cond hS rfl (fun hb => ?_) (fun hb => ?_)
          · have h := ite_t hb hj_47
            obtain ⟨v_49, e_50, h⟩ := bind_some h
            obtain ⟨v_51, e_52, h⟩ := bind_some h
            obtain ⟨z_53, e_54, h⟩ := bind_some h
            refine l_start ?_
            refine s_c hS (sg (sp_move (od rfl))) rfl fun a w hS hM => ?_
            refine s_c hS (sg (sp_move (od rfl))) rfl fun a w hS hM => ?_
            refine s_c hS (sg (sp_indexAddrT Tryz.underlying74 sz37 (od rfl) (od rfl) e_50)) rfl fun a w hS hM => ?_
            refine s_c hS (sg (sp_loadTR Tryz.underlying37 (od rfl))) rfl fun a w hS hM => ?_
            refine s_c hS (sg (sp_move (od rfl))) rfl fun a w hS hM => ?_
            refine s_c hS (sg (sp_move (od rfl))) rfl fun a w hS hM => ?_
            refine s_c hS (sg (sp_indexAddrTA sl37 (od rfl) (od rfl) e_52)) rfl fun a w hS hM => ?_
            refine s_storeTA (k := 0) (i := i_23) (j := i_29) (Δ := [(2, isA (α := S_api_Market) p0), (5, Pr.is u_3), (7, isV (α := Int) i_17), (8, isV (α := Int) i_23), (27, isV (α := Int) p0.1), (28, isV (α := Int) i_17), (32, isV (α := Int) p0.1), (33, isV (α := Int) i_23), (37, isV (α := Int) p0.1), (38, isV (α := Int) i_29), (70, isV (α := Int) (wr (v_37 + v_41))), (71, isHA Int x_4.2 i_23.toNat i_29.toNat)]) ty3 hS rfl ⟨od rfl, odTab rfl, od rfl, od rfl, od rfl, od rfl, od rfl, od rfl, od rfl, od rfl, od rfl, odHA rfl, trivial⟩ ⟨fun _ _ _ _ h => h, fun _ _ _ _ h => h, fun _ _ _ _ h => h, fun _ _ _ _ h => h, fun _ _ _ _ h => h, fun _ _ _ _ h => h, fun _ _ _ _ h => h, fun _ _ _ _ h => h, fun _ _ _ _ h => h, fun _ _ _ _ h => h, fun _ _ _ _ h => h, fun _ _ _ _ h => h, trivial⟩ (odHA rfl) (od rfl) e_54 fun w hS hM => ?_
            have hS : St _ F0 [Item.tab (α := Int) 37 3 u_3 x_4.1 x_4.2 z_53] _ w0 _ _ := hS
            refine l_end ?_
            cases h
            exact ⟨rfl, hS.weak ⟨od rfl, od rfl, od rfl, od rfl, od rfl, od rfl, od rfl, od rfl, od rfl, od rfl, trivial⟩⟩
          have h := ite_f hb hj_47
          refine wp_skip ?_
          cases h
          exact ⟨rfl, hS.weak ⟨od rfl, odTab rfl, od rfl, od rfl, od rfl, od rfl, od rfl, od rfl, od rfl, od rfl, trivial⟩⟩
        rintro e a w ⟨rfl, hS⟩
        refine exit_block ?_
        refine et ?_
        refine st_reg mixed (by kernel_rfl) hS ?_
        refine cg (sp_add (od rfl) (odi)) ?_
        refine mv rfl ?_
        refine sn fun a w hS => ?_
        cases h
        exact ⟨k_32, _, _, rfl, hF_32, hS.weak ⟨od rfl, od rfl, od rfl, od rfl, od rfl, od rfl, od rfl, od rfl, od rfl, od (congrArg (fun z => some (isV (α := Int) z)) hw_32), trivial⟩⟩
      refine wp_exit ?_
      obtain rfl := (fors_done hF_32 hb).symm
      have h := hr_34
      refine exit_thenE ?_
      refine exit_thenE ?_
      refine exit_here ?_
      refine exit_block ?_
      refine et ?_
      refine st_reg mixed (by kernel_rfl) hS ?_
      refine cg (sp_add (od rfl) (odi)) ?_
      refine mv rfl ?_
      refine sn fun a w hS => ?_
      cases h
      exact ⟨k_26, _, _, rfl, hF_26, hS.weak ⟨od rfl, od rfl, od rfl, od rfl, od rfl, od rfl, od (congrArg (fun z => some (isV (α := Int) z)) hw_26), trivial⟩⟩
    refine wp_exit ?_
    obtain rfl := (fors_done hF_26 hb).symm
    have h := hr_28
    refine exit_thenE ?_
    refine exit_thenE ?_
    refine exit_here ?_
    refine exit_block ?_
    refine et ?_
    refine st_reg mixed (by kernel_rfl) hS ?_
    refine cg (sp_add (od rfl) (odi)) ?_
    refine mv rfl ?_
    refine sn fun a w hS => ?_
    cases h
    exact ⟨k_20, _, _, rfl, hF_20, hS.weak ⟨od rfl, od rfl, od rfl, od (congrArg (fun z => some (isV (α := Int) z)) hw_20), trivial⟩⟩
  refine wp_exit ?_
  obtain rfl := (fors_done hF_20 hb).symm
  have h := hr_22
  refine exit_thenE ?_
  refine exit_thenE ?_
  refine exit_here ?_
  refine et ?_
  refine ws ?_
  refine st_reg mixed (by kernel_rfl) hS ?_
  refine mv rfl ?_
  refine cg (sp_assign (od rfl)) ?_
  refine sn fun a w hS => ?_
  refine et ?_
  refine wp_ret ?_
  have hS0 := hS
  have hS := st_freezeT 0 4 hS rfl rfl
  have hS := st_also (t := 4) (q := 5) hS0 hS rfl rfl rfl
  have hS := st_also (t := 4) (q := 75) hS0 hS rfl rfl rfl
  cases h
  exact st_ret hS (run_results1 Tryz.results30 a w) (hS.get rfl)

theorem f10_ok {p0 : S_api_Market} {p1 : List Int} {p2 : Int} {p3 : Int} {r : Int × Bool × Int} (h : M.f10 p0 p1 p2 p3 = some r) : CallOK Tryz.prog 10 [isV p0, isV p1, isV p2, isV p3] (isTup [isV r.1, isV r.2.1, isV r.2.2]) := by
  unfold M.f10 at h
  refine callS_of Tryz.func10 rfl Tryz.ntmps10 rfl fun F0 w0 a hS => ?_
  refine ws ?_
  refine st_reg mixed (by kernel_rfl) hS ?_
  refine cg (sp_box (od rfl)) ?_
  refine cg (sp_assign (odi)) ?_
  refine cg (sp_assign (odb)) ?_
  refine cg (sp_assign (odi)) ?_
  refine sn fun a w hS => ?_
  refine et ?_
  refine ws ?_
  refine ws ?_
  obtain ⟨v_1, e_2, h⟩ := bind_some h
  refine st_reg mixed (by kernel_rfl) hS ?_
  refine cg (sp_load ty33 (od rfl)) ?_
  refine mv rfl ?_
  refine mv rfl ?_
  refine mv rfl ?_
  refine cg (sp_buildSlice [.tmp 15, .tmp 16] ([p2, p3] : List Int) sl37 ze3 rfl rfl rfl rfl ⟨od rfl, od rfl, trivial⟩) ?_
  refine cg (bd72_0 (od rfl)) ?_
  refine cg (sp_call en29 (f29_ok e_2) ⟨od rfl, od rfl, od rfl, trivial⟩) ?_
  refine cg (sp_assign (od rfl)) ?_
  refine sn fun a w hS => ?_
  refine et ?_
  refine ws ?_
  refine st_reg mixed (by kernel_rfl) hS ?_
  refine mv rfl ?_
  refine cg (sp_neq (od rfl) (odi)) ?_
  refine sn fun a w hS => ?_
  refine et ?_
  refine st_cond hS rfl (fun hb => ?_) (fun hb => ?_)
  · have h := ite_t hb h
    refine ws ?_
    refine st_reg mixed (by kernel_rfl) hS ?_
    refine mv rfl ?_
    refine cg (sp_assign (odi)) ?_
    refine cg (sp_assign (odb)) ?_
    refine cg (sp_assign (od rfl)) ?_
    refine sn fun a w hS => ?_
    refine et ?_
    refine wp_ret ?_
    refine exit_thenR ?_
    cases h
    exact st_ret hS (run_results3 Tryz.results10 a w) (⟨_, rfl, hS.get rfl, hS.get rfl, hS.get rfl, trivial⟩)
  have h := ite_f hb h
  refine wp_skip ?_
  refine et ?_
  refine ws ?_
  obtain ⟨v_3, e_4, h⟩ := bind_some h
  obtain ⟨v_5, e_6, h⟩ := bind_some h
  refine st_reg mixed (by kernel_rfl) hS ?_
  refine cg (sp_load ty33 (od rfl)) ?_
  refine mv rfl ?_
  refine cg (sp_call en31 (f31_ok e_4) ⟨od rfl, trivial⟩) ?_
  refine cg (sp_call en30 (f30_ok e_6) ⟨od rfl, od rfl, trivial⟩) ?_
  refine cg (sp_assign (od rfl)) ?_
  refine sn fun a w hS => ?_
  refine et ?_
  refine ws ?_
  refine ws ?_
  obtain ⟨v_7, e_8, h⟩ := bind_some h
  obtain ⟨v_9, e_10, h⟩ := bind_some h
  refine st_reg mixed (by kernel_rfl) hS ?_
  refine mv rfl ?_
  refine mv rfl ?_
  refine cg (sp_indexAddr sl74 (od rfl) (od rfl) e_8) ?_
  refine cg (sp_load ty37 (od rfl)) ?_
  refine mv rfl ?_
  refine cg (sp_indexAddr sl37 (od rfl) (od rfl) e_10) ?_
  refine cg (sp_load ty3 (od rfl)) ?_
  refine cg (sp_geq (od rfl) (odi)) ?_
  refine sn fun a w hS => ?_
  refine et ?_
  refine st_cond hS rfl (fun hb => ?_) (fun hb => ?_)
  · have h := ite_t hb h
    refine ws ?_
    refine st_reg mixed (by kernel_rfl) hS ?_
    refine cg (sp_assign (odi)) ?_
    refine cg (sp_assign (odb)) ?_
    refine cg (sp_assign (odi)) ?_
    refine sn fun a w hS => ?_
    refine et ?_
    refine wp_ret ?_
    refine exit_thenR ?_
    cases h
    exact st_ret hS (run_results3 Tryz.results10 a w) (⟨_, rfl, hS.get rfl, hS.get rfl, hS.get rfl, trivial⟩)
  have h := ite_f hb h
  refine wp_skip ?_
  refine et ?_
  refine ws ?_
  obtain ⟨v_11, e_12, h⟩ := bind_some h
  obtain ⟨v_13, e_14, h⟩ := bind_some h
  refine st_reg mixed (by kernel_rfl) hS ?_
  refine mv rfl ?_
  refine mv rfl ?_
  refine cg (sp_indexAddr sl74 (od rfl) (od rfl) e_12) ?_
  refine cg (sp_load ty37 (od rfl)) ?_
  refine mv rfl ?_
  refine cg (sp_indexAddr sl37 (od rfl) (od rfl) e_14) ?_
  refine cg (sp_load ty3 (od rfl)) ?_
  refine cg (sp_assign (od rfl)) ?_
  refine cg (sp_assign (odb)) ?_
  refine cg (sp_assign (odi)) ?_
  refine sn fun a w hS => ?_
  refine et ?_
  refine wp_ret ?_
  cases h
  exact st_ret hS (run_results3 Tryz.results10 a w) (⟨_, rfl, hS.get rfl, hS.get rfl, hS.get rfl, trivial⟩)

theorem f55_ok {p0 : Int} {c0 : S_api_Market} {c1 : Int} {c2 : Int} {c3 : Int} {r : Bool} (h : M.f55 p0 c0 c1 c2 c3 = some r) : CallOK Tryz.prog 55 [isV p0, isA c0, isA c1, isA c2, isA c3] (isV r) := by
  unfold M.f55 at h
  refine callS_of Tryz.func55 rfl Tryz.ntmps55 rfl fun F0 w0 a hS => ?_
  refine ws ?_
  refine st_reg mixed (by kernel_rfl) hS ?_
  refine cg (sp_assign (odb)) ?_
  refine sn fun a w hS => ?_
  refine et ?_
  refine ws ?_
  obtain ⟨v_1, e_2, h⟩ := bind_some h
  obtain ⟨v_3, e_4, h⟩ := bind_some h
  obtain ⟨v_5, e_6, h⟩ := bind_some h
  refine st_reg mixed (by kernel_rfl) hS ?_
  refine cg (sp_load ty33 (od rfl)) ?_
  refine mv rfl ?_
  refine cg (sp_call en30 (f30_ok e_2) ⟨od rfl, od rfl, trivial⟩) ?_
  refine cg (sp_load ty3 (od rfl)) ?_
  refine cg (sp_indexAddr sl74 (od rfl) (od rfl) e_4) ?_
  refine cg (sp_load ty37 (od rfl)) ?_
  refine cg (sp_load ty3 (od rfl)) ?_
  refine cg (sp_indexAddr sl37 (od rfl) (od rfl) e_6) ?_
  refine cg (sp_load ty3 (od rfl)) ?_
  refine cg (sp_load ty3 (od rfl)) ?_
  refine cg (sp_leq (od rfl) (od rfl)) ?_
  refine cg (sp_assign (od rfl)) ?_
  refine sn fun a w hS => ?_
  refine et ?_
  refine wp_ret ?_
  cases h
  exact st_ret hS (run_results1 Tryz.results55 a w) (hS.get rfl)

theorem f32_ok {p0 : S_api_Market} {p1 : Int} {p2 : Int} {p3 : Int} {r : S_keeper_want} (h : M.f32 p0 p1 p2 p3 = some r) : CallOK Tryz.prog 32 [isV p0, isV p1, isV p2, isV p3] (isV r) := by
  unfold M.f32 at h
  refine callS_of Tryz.func32 rfl Tryz.ntmps32 rfl fun F0 w0 a hS => ?_
  refine ws ?_
  refine l_start ?_
  refine s_c hS (sg (sp_box (od rfl))) rfl fun a w hS hM => ?_
  refine s_c hS (sg (sp_box (od rfl))) rfl fun a w hS hM => ?_
  refine s_c hS (sg (sp_box (od rfl))) rfl fun a w hS hM => ?_
  refine s_c hS (sg (sp_box (od rfl))) rfl fun a w hS hM => ?_
  refine s_alloc zi82 hS rfl fun a w b_1 hS hM => ?_
  have hS : St _ F0 [Item.box (α := S_keeper_want) 82 b_1 (((fun _ => none), ()) : S_keeper_want)] _ w0 _ _ := hS
  refine l_end ?_
  refine et ?_
  refine ws ?_
  refine l_start ?_
  refine s_c hS (sg (mk_fn80 (f := (fun x0 => M.f55 x0 p0 p1 p2 p3)) (κs := [isA (α := S_api_Market) p0, isA (α := Int) p1, isA (α := Int) p2, isA (α := Int) p3]) ⟨fun _ _ _ _ h => h, fun _ _ _ _ h => h, fun _ _ _ _ h => h, fun _ _ _ _ h => h, trivial⟩ en55 ⟨od rfl, od rfl, od rfl, od rfl, trivial⟩ (fun _ _ h => f55_ok h))) rfl fun a w hS hM => ?_
  refine s_c hS (sg (bd82_0 (od rfl))) rfl fun a w hS hM => ?_
  refine s_storeB (k := 0) (Δ := [(8, Pr.ptr b_1), (10, isV (α := S_keeper_want) ((((fun x0 => M.f55 x0 p0 p1 p2 p3) : (Int → Option Bool)), ()) : S_keeper_want))]) ty82 hS rfl ⟨od rfl, od rfl, trivial⟩ ⟨fun _ _ _ _ h => h, fun _ _ _ _ h => h, trivial⟩ rfl (od rfl) fun w hS hM => ?_
  have hS : St _ F0 [Item.box (α := S_keeper_want) 82 b_1 ((((fun x0 => M.f55 x0 p0 p1 p2 p3) : (Int → Option Bool)), ()) : S_keeper_want)] _ w0 _ _ := hS
  have hS := st_freezeB 0 8 hS rfl rfl
  refine l_end ?_
  refine et ?_
  refine wp_ret ?_
  cases h
  obtain ⟨v, hr, hv⟩ := run_resC1 Tryz.results32 ty82 (hS.get rfl)
  exact st_ret hS hr hv

theorem f45_ok {p0 : Int} {p1 : S_api_Market} {r : Int} (h : M.f45 p0 p1 = some r) : CallOK Tryz.prog 45 [isV p0, isV p1] (isV r) := by
  unfold M.f45 at h
  refine callS_of Tryz.func45 rfl Tryz.ntmps45 rfl fun F0 w0 a hS => ?_
  refine ws ?_
  refine st_reg mixed (by kernel_rfl) hS ?_
  refine cg (sp_box (od rfl)) ?_
  refine cg (sp_assign (odi)) ?_
  refine sn fun a w hS => ?_
  refine et ?_
  refine ws ?_
  refine ws ?_
  obtain ⟨v_1, e_2, h⟩ := bind_some h
  refine st_reg mixed (by kernel_rfl) hS ?_
  refine mv rfl ?_
  refine cg (sp_call en57 (f57_ok e_2) ⟨od rfl, trivial⟩) ?_
  refine cg (sp_len Tryz.underlying37 (od rfl)) ?_
  refine cg (sp_move (odi)) ?_
  refine sn fun a w hS => ?_
  refine et ?_
  refine wp_block ?_
  obtain ⟨o_6, e_7, hr_8⟩ := bind_some h
  refine c_loop (fun K a w => ∃ k i_3 s_5, K = k + 1 ∧ ForT _ _ _ o_6 k i_3 s_5 ∧ St 24 F0 [] [(3, isA (α := S_api_Market) p1), (4, isV (α := Int) s_5), (8, isV (α := List Int) v_1), (9, isV (α := Int) (v_1.length : Int)), (10, isV (α := Int) i_3)] w0 a w) ?_ ?_ ⟨_, _, _, rfl, fors_init e_7, hS.weak ⟨od rfl, od rfl, od rfl, od rfl, od rfl, trivial⟩⟩
  · rintro a w ⟨_, _, _, hk, _⟩; cases hk
  rintro K a w ⟨k_6, i_3, s_5, hk, hF_6, hS⟩
  obtain rfl := Nat.succ.inj hk
  refine ws ?_
  refine st_reg mixed (by kernel_rfl) hS ?_
  refine cg (sp_lss (od rfl) (od rfl)) ?_
  refine sn fun a w hS => ?_
  refine et ?_
  refine ws ?_
  refine st_cond hS rfl (fun hb => ?_) (fun hb => ?_)
  · refine wp_skip ?_
    refine et ?_
    obtain ⟨k_6, s', rfl, h, hF_6, hw_6⟩ := fors_more hF_6 hb
    refine ws ?_
    refine wp_block ?_
    refine ws ?_
    obtain ⟨v_9, e_10, h⟩ := bind_some h
    refine st_reg mixed (by kernel_rfl) hS ?_
    refine cg (sp_indexAddr sl37 (od rfl) (od rfl) e_10) ?_
    refine cg (sp_load ty3 (od rfl)) ?_
    refine cg (sp_assign (od rfl)) ?_
    refine sn fun a w hS => ?_
    refine et ?_
    obtain ⟨v_11, e_12, h⟩ := bind_some h
    refine st_reg mixed (by kernel_rfl) hS ?_
    refine mv rfl ?_
    refine cg (sp_fieldAddr fd33_2 (od rfl)) ?_
    refine cg (sp_load ty31 (od rfl)) ?_
    refine mv rfl ?_
    refine cg (sp_indexAddr sl31 (od rfl) (od rfl) e_12) ?_
    refine cg (sp_fieldAddr fd23_2 (od rfl)) ?_
    refine cg (sp_load ty3 (od rfl)) ?_
    refine cg (sp_add (od rfl) (od rfl)) ?_
    refine cg (sp_assign (od rfl)) ?_
    refine sn fun a w hS => ?_
    refine exit_block ?_
    refine et ?_
    refine st_reg mixed (by kernel_rfl) hS ?_
    refine cg (sp_add (od rfl) (odi)) ?_
    refine mv rfl ?_
    refine sn fun a w hS => ?_
    cases h
    exact ⟨k_6, _, _, rfl, hF_6, hS.weak ⟨od rfl, od rfl, od rfl, od rfl, od (congrArg (fun z => some (isV (α := Int) z)) hw_6), trivial⟩⟩
  refine wp_exit ?_
  obtain rfl := (fors_done hF_6 hb).symm
  have h := hr_8
  refine exit_thenE ?_
  refine exit_thenE ?_
  refine exit_here ?_
  refine et ?_
  refine ws ?_
  refine st_reg mixed (by kernel_rfl) hS ?_
  refine mv rfl ?_
  refine cg (sp_assign (od rfl)) ?_
  refine sn fun a w hS => ?_
  refine et ?_
  refine wp_ret ?_
  cases h
  exact st_ret hS (run_results1 Tryz.results45 a w) (hS.get rfl)

theorem f77_ok {p0 : List Int} {p1 : List Int} {r : Int} (h : M.f77 p0 p1 = some r) : CallOK Tryz.prog 77 [isV p0, isV p1] (isV r) := by
  unfold M.f77 at h
  refine callS_of Tryz.func77 rfl Tryz.ntmps77 rfl fun F0 w0 a hS => ?_
  refine ws ?_
  refine st_reg mixed (by kernel_rfl) hS ?_
  refine cg (sp_assign (odi)) ?_
  refine sn fun a w hS => ?_
  refine et ?_
  refine ws ?_
  refine ws ?_
  refine st_reg mixed (by kernel_rfl) hS ?_
  refine mv rfl ?_
  refine cg (sp_len Tryz.underlying37 (od rfl)) ?_
  refine cg (sp_move (odi)) ?_
  refine sn fun a w hS => ?_
  refine et ?_
  refine wp_block ?_
  obtain ⟨o_4, e_5, hr_6⟩ := bind_some h
  refine c_loop (fun K a w => ∃ k i_1 s_3, K = k + 1 ∧ ForI _ _ _ o_4 k i_1 s_3 ∧ St 36 F0 [] [(0, isV (α := List Int) p0), (1, isV (α := List Int) p1), (9, isV (α := List Int) p0), (10, isV (α := Int) (p0.length : Int)), (11, isV (α := Int) i_1)] w0 a w) ?_ ?_ ⟨_, _, _, rfl, for_init e_5, hS.weak ⟨od rfl, od rfl, od rfl, od rfl, od rfl, trivial⟩⟩
  · rintro a w ⟨_, _, _, hk, _⟩; cases hk
  rintro K a w ⟨k_4, i_1, s_3, hk, hF_4, hS⟩
  obtain rfl := Nat.succ.inj hk
  refine ws ?_
  refine st_reg mixed (by kernel_rfl) hS ?_
  refine cg (sp_lss (od rfl) (od rfl)) ?_
  refine sn fun a w hS => ?_
  refine et ?_
  refine ws ?_
  refine st_cond hS rfl (fun hb => ?_) (fun hb => ?_)
  · refine wp_skip ?_
    refine et ?_
    obtain ⟨k_4, o, rfl, h, hN_4, hL_4, hw_4⟩ := for_more hF_4 hb
    refine ws ?_
    refine wp_block ?_
    refine ws ?_
    obtain ⟨v_7, e_8, h⟩ := bind_some h
    refine st_reg mixed (by kernel_rfl) hS ?_
    refine mv rfl ?_
    refine cg (sp_indexAddr sl37 (od rfl) (od rfl) e_8) ?_
    refine cg (sp_load ty3 (od rfl)) ?_
    refine cg (sp_assign (od rfl)) ?_
    refine cg (sp_assign (od rfl)) ?_
    refine sn fun a w hS => ?_
    refine et ?_
    refine ws ?_
    refine ws ?_
    refine st_reg mixed (by kernel_rfl) hS ?_
    refine mv rfl ?_
    refine mv rfl ?_
    refine cg (sp_len Tryz.underlying37 (od rfl)) ?_
    refine cg (sp_geq (od rfl) (od rfl)) ?_
    refine sn fun a w hS => ?_
    refine et ?_
    refine st_cond hS rfl (fun hb => ?_) (fun hb => ?_)
    · have h := ite_t hb h
      refine ws ?_
      refine st_reg mixed (by kernel_rfl) hS ?_
      refine cg (sp_assign (odi)) ?_
      refine sn fun a w hS => ?_
      refine et ?_
      refine wp_ret ?_
      refine exit_thenR ?_
      refine exit_blockR ?_
      refine exit_thenR ?_
      cases h
      obtain rfl := hL_4 _ rfl
      have h := (elim_leave hr_6)
      refine exit_thenR ?_
      refine exit_blockR ?_
      refine exit_thenR ?_
      cases h
      exact st_ret hS (run_results1 Tryz.results77 a w) (hS.get rfl)
    have h := ite_f hb h
    refine wp_skip ?_
    refine et ?_
    refine ws ?_
    obtain ⟨v_9, e_10, h⟩ := bind_some h
    refine st_reg mixed (by kernel_rfl) hS ?_
    refine mv rfl ?_
    refine mv rfl ?_
    refine cg (sp_indexAddr sl37 (od rfl) (od rfl) e_10) ?_
    refine cg (sp_load ty3 (od rfl)) ?_
    refine cg (sp_assign (od rfl)) ?_
    refine sn fun a w hS => ?_
    refine et ?_
    refine ws ?_
    obtain ⟨v_11, e_12, h⟩ := bind_some h
    refine st_reg mixed (by kernel_rfl) hS ?_
    refine mv rfl ?_
    refine mv rfl ?_
    refine cg (sp_call en61 (f61_ok e_12) ⟨od rfl, od rfl, trivial⟩) ?_
    refine cg (sp_assign (od rfl)) ?_
    refine sn fun a w hS => ?_
    refine et ?_
    refine ws ?_
    refine st_reg mixed (by kernel_rfl) hS ?_
    refine mv rfl ?_
    refine cg (sp_neq (od rfl) (odi)) ?_
    refine sn fun a w hS => ?_
    refine et ?_
    refine st_cond hS rfl (fun hb => ?_) (fun hb => ?_)
    · have h := ite_t hb h
      refine ws ?_
      refine st_reg mixed (by kernel_rfl) hS ?_
      refine mv rfl ?_
      refine cg (sp_assign (od rfl)) ?_
      refine sn fun a w hS => ?_
      refine et ?_
      refine wp_ret ?_
      refine exit_blockR ?_
      refine exit_thenR ?_
      cases h
      obtain rfl := hL_4 _ rfl
      have h := (elim_leave hr_6)
      refine exit_thenR ?_
      refine exit_blockR ?_
      refine exit_thenR ?_
      cases h
      exact st_ret hS (run_results1 Tryz.results77 a w) (hS.get rfl)
    have h := ite_f hb h
    refine wp_skip ?_
    refine exit_block ?_
    refine et ?_
    refine st_reg mixed (by kernel_rfl) hS ?_
    refine cg (sp_add (od rfl) (odi)) ?_
    refine mv rfl ?_
    refine sn fun a w hS => ?_
    cases h
    exact ⟨k_4, _, _, rfl, hN_4 _ rfl, hS.weak ⟨od rfl, od rfl, od rfl, od rfl, od (congrArg (fun z => some (isV (α := Int) z)) hw_4), trivial⟩⟩
  refine wp_exit ?_
  obtain rfl := for_done hF_4 hb
  have h := elim_again hr_6
  refine exit_thenE ?_
  refine exit_thenE ?_
  refine exit_here ?_
  refine et ?_
  refine ws ?_
  refine ws ?_
  refine st_reg mixed (by kernel_rfl) hS ?_
  refine mv rfl ?_
  refine cg (sp_len Tryz.underlying37 (od rfl)) ?_
  refine mv rfl ?_
  refine cg (sp_len Tryz.underlying37 (od rfl)) ?_
  refine cg (sp_lss (od rfl) (od rfl)) ?_
  refine sn fun a w hS => ?_
  refine et ?_
  refine st_cond hS rfl (fun hb => ?_) (fun hb => ?_)
  · have h := ite_t hb h
    refine ws ?_
    refine st_reg mixed (by kernel_rfl) hS ?_
    refine cg (sp_assign (odi)) ?_
    refine sn fun a w hS => ?_
    refine et ?_
    refine wp_ret ?_
    refine exit_thenR ?_
    cases h
    exact st_ret hS (run_results1 Tryz.results77 a w) (hS.get rfl)
  have h := ite_f hb h
  refine wp_skip ?_
  refine et ?_
  refine ws ?_
  refine st_reg mixed (by kernel_rfl) hS ?_
  refine cg (sp_assign (odi)) ?_
  refine sn fun a w hS => ?_
  refine et ?_
  refine wp_ret ?_
  cases h
  exact st_ret hS (run_results1 Tryz.results77 a w) (hS.get rfl)

theorem f56_ok {p0 : S_keeper_choice} {p1 : S_keeper_choice} {r : Bool} (h : M.f56 p0 p1 = some r) : CallOK Tryz.prog 56 [isV p0, isV p1] (isV r) := by
  unfold M.f56 at h
  refine callS_of Tryz.func56 rfl Tryz.ntmps56 rfl fun F0 w0 a hS => ?_
  refine ws ?_
  refine st_reg mixed (by kernel_rfl) hS ?_
  refine cg (sp_box (od rfl)) ?_
  refine cg (sp_box (od rfl)) ?_
  refine cg (sp_assign (odb)) ?_
  refine sn fun a w hS => ?_
  refine et ?_
  refine ws ?_
  obtain ⟨v_1, e_2, h⟩ := bind_some h
  obtain ⟨v_3, e_4, h⟩ := bind_some h
  refine st_reg mixed (by kernel_rfl) hS ?_
  refine cg (sp_fieldAddr fd79_2 (od rfl)) ?_
  refine cg (sp_load ty76 (od rfl)) ?_
  refine cg (sp_call en57 (f57_ok e_2) ⟨od rfl, trivial⟩) ?_
  refine cg (sp_fieldAddr fd79_2 (od rfl)) ?_
  refine cg (sp_load ty76 (od rfl)) ?_
  refine cg (sp_call en57 (f57_ok e_4) ⟨od rfl, trivial⟩) ?_
  refine cg (sp_assign (od rfl)) ?_
  refine cg (sp_assign (od rfl)) ?_
  refine sn fun a w hS => ?_
  refine et ?_
  refine ws ?_
  obtain ⟨v_5, e_6, h⟩ := bind_some h
  obtain ⟨v_7, e_8, h⟩ := bind_some h
  obtain ⟨v_9, e_10, h⟩ := bind_some h
  obtain ⟨v_11, e_12, h⟩ := bind_some h
  refine st_reg mixed (by kernel_rfl) hS ?_
  refine cg (sp_fieldAddr fd79_1 (od rfl)) ?_
  refine cg (sp_load ty3 (od rfl)) ?_
  refine cg (sp_fieldAddr fd79_1 (od rfl)) ?_
  refine cg (sp_load ty3 (od rfl)) ?_
  refine cg (sp_call en61 (f61_ok e_6) ⟨od rfl, od rfl, trivial⟩) ?_
  refine mv rfl ?_
  refine cg (sp_len Tryz.underlying37 (od rfl)) ?_
  refine mv rfl ?_
  refine cg (sp_len Tryz.underlying37 (od rfl)) ?_
  refine cg (sp_call en61 (f61_ok e_8) ⟨od rfl, od rfl, trivial⟩) ?_
  refine mv rfl ?_
  refine mv rfl ?_
  refine cg (sp_call en77 (f77_ok e_10) ⟨od rfl, od rfl, trivial⟩) ?_
  refine cg (sp_buildSlice [.tmp 17, .tmp 22, .tmp 25] ([v_5, v_7, v_9] : List Int) sl37 ze3 rfl rfl rfl rfl ⟨od rfl, od rfl, od rfl, trivial⟩) ?_
  refine cg (sp_call en60 (f60_ok e_12) ⟨od rfl, trivial⟩) ?_
  refine cg (sp_lss (od rfl) (odi)) ?_
  refine cg (sp_assign (od rfl)) ?_
  refine sn fun a w hS => ?_
  refine et ?_
  refine wp_ret ?_
  cases h
  exact st_ret hS (run_results1 Tryz.results56 a w) (hS.get rfl)

theorem f33_ok {p0 : S_keeper_want} {p1 : S_api_Market} {r : S_keeper_choice} (h : M.f33 p0 p1 = some r) : CallOK Tryz.prog 33 [isV p0, isV p1] (isV r) := by
  unfold M.f33 at h
  refine callS_of Tryz.func33 rfl Tryz.ntmps33 rfl fun F0 w0 a hS => ?_
  refine ws ?_
  refine l_start ?_
  refine s_c hS (sg (sp_box (od rfl))) rfl fun a w hS hM => ?_
  refine s_c hS (sg (sp_box (od rfl))) rfl fun a w hS hM => ?_
  refine s_alloc zi79 hS rfl fun a w b_1 hS hM => ?_
  have hS : St _ F0 [Item.box (α := S_keeper_choice) 79 b_1 ((false, 0, 0) : S_keeper_choice)] _ w0 _ _ := hS
  refine l_end ?_
  refine et ?_
  refine ws ?_
  refine ws ?_
  obtain ⟨v_2, e_3, h⟩ := bind_some h
  refine st_reg mixed (by kernel_rfl) hS ?_
  refine cg (sp_fieldAddr fd33_2 (od rfl)) ?_
  refine cg (sp_load ty31 (od rfl)) ?_
  refine cg (sp_len Tryz.underlying31 (od rfl)) ?_
  refine cg (sp_shl (odi) (od rfl) e_3) ?_
  refine cg (sp_move (odi)) ?_
  refine sn fun a w hS => ?_
  refine et ?_
  refine wp_block ?_
  obtain ⟨o_7, e_8, hr_9⟩ := bind_some h
  refine c_loop (fun K a w => ∃ k i_4 s_6, K = k + 1 ∧ ForT _ _ _ o_7 k i_4 s_6 ∧ St 36 F0 [Item.box (α := S_keeper_choice) 79 b_1 s_6] [(2, isA (α := S_keeper_want) p0), (3, isA (α := S_api_Market) p1), (4, Pr.ptr b_1), (10, isV (α := Int) v_2), (11, isV (α := Int) i_4)] w0 a w) ?_ ?_ ⟨_, _, _, rfl, fors_init e_8, hS.weak ⟨od rfl, od rfl, od rfl, od rfl, od rfl, trivial⟩⟩
  · rintro a w ⟨_, _, _, hk, _⟩; cases hk
  rintro K a w ⟨k_7, i_4, s_6, hk, hF_7, hS⟩
  obtain rfl := Nat.succ.inj hk
  refine ws ?_
  refine st_reg mixed (by kernel_rfl) hS ?_
  refine cg (sp_lss (od rfl) (od rfl)) ?_
  refine sn fun a w hS => ?_
  refine et ?_
  refine ws ?_
  refine st_cond hS rfl (fun hb => ?_) (fun hb => ?_)
  · refine wp_skip ?_
    refine et ?_
    obtain ⟨k_7, s', rfl, h, hF_7, hw_7⟩ := fors_more hF_7 hb
    refine ws ?_
    refine wp_block ?_
    refine ws ?_
    refine st_reg mixed (by kernel_rfl) hS ?_
    refine mv rfl ?_
    refine cg (sp_assign (od rfl)) ?_
    refine sn fun a w hS => ?_
    refine et ?_
    refine ws ?_
    obtain ⟨v_10, e_11, h⟩ := bind_some h
    refine l_start ?_
    refine s_c hS (sg (sp_move (od rfl))) rfl fun a w hS hM => ?_
    refine s_c hS (sg (sp_load ty33 (od rfl))) rfl fun a w hS hM => ?_
    refine s_c hS (sg (sp_call en45 (f45_ok e_11) ⟨od rfl, od rfl, trivial⟩)) rfl fun a w hS hM => ?_
    refine s_c hS (sg (sp_move (od rfl))) rfl fun a w hS hM => ?_
    refine s_c hS (sg (bd79_012 (odb) (od rfl) (od rfl))) rfl fun a w hS hM => ?_
    refine s_allocStore ze79 hS (od rfl) (fun k hk => by cases hk; rfl) rfl fun a w hS hM => ?_
    refine l_end ?_
    refine et ?_
    refine ws ?_
    have hS := st_box 0 4 hS rfl rfl
    obtain ⟨v_12, e_13, h⟩ := bind_some h
    obtain ⟨v_14, e_15, h⟩ := bind_some h
    refine st_reg mixed (by kernel_rfl) hS ?_
    refine cg (sp_loadB ty79 (odB rfl)) ?_
    refine cg (bd79_ ) ?_
    refine cg (sp_eqlS eq79 rfl eg79 rfl (od rfl) (od rfl)) ?_
    refine mv rfl ?_
    refine sc (sgF rfl fun hG => sp_load ty79 (od rfl)) ?_
    refine sc (sgF rfl fun hG => sp_loadB ty79 (odB rfl)) ?_
    refine sc (sgF rfl fun hG => sp_call en56 (f56_ok (guard_some e_13 hG)) ⟨odw rfl hG, odw rfl hG, trivial⟩) ?_
    refine cg (sp_pickOr (od rfl) fun hg => odw rfl (not_t hg)) ?_
    refine mv rfl ?_
    refine sc (sgT rfl fun hG => sp_fieldAddr fd82_0 (od rfl)) ?_
    refine sc (sgT rfl fun hG => sp_load ty80 (odw rfl hG)) ?_
    refine sc (sgT rfl fun hG => sp_move (od rfl)) ?_
    refine sc (sgT rfl fun hG => sp_callV (od_fn80 (odw rfl hG)) ⟨odw rfl hG, trivial⟩ (guard_some e_15 hG)) ?_
    refine cg (sp_pickAnd (od rfl) fun hg => odw rfl hg) ?_
    refine sn fun a w hS => ?_
    refine et ?_
    obtain ⟨y_17, hj_16, h⟩ := bind_some h
    refine wp_mono (Q := fun e a w => e = Exit.normal ∧ St 36 F0 [Item.box (α := S_keeper_choice) 79 b_1 y_17] [(2, isA (α := S_keeper_want) p0), (3, isA (α := S_api_Market) p1), (4, Pr.ptr b_1), (10, isV (α := Int) v_2), (11, isV (α := Int) i_4)] w0 a w) ?_ ?_
    · refine st_cond hS rfl (fun hb => ?_) (fun hb => ?_)
      · have h := ite_t hb hj_16
        refine l_start ?_
        refine s_c hS (sg (sp_load ty79 (od rfl))) rfl fun a w hS hM => ?_
        refine s_storeB (k := 0) (Δ := [(2, isA (α := S_keeper_want) p0), (3, isA (α := S_api_Market) p1), (4, Pr.ptr b_1), (10, isV (α := Int) v_2), (11, isV (α := Int) i_4), (33, isV (α := S_keeper_choice) ((true, v_10, i_4) : S_keeper_choice))]) ty79 hS rfl ⟨od rfl, od rfl, odBx rfl, od rfl, od rfl, od rfl, trivial⟩ ⟨fun _ _ _ _ h => h, fun _ _ _ _ h => h, fun _ _ _ _ h => h, fun _ _ _ _ h => h, fun _ _ _ _ h => h, fun _ _ _ _ h => h, trivial⟩ rfl (od rfl) fun w hS hM => ?_
        have hS : St _ F0 [Item.box (α := S_keeper_choice) 79 b_1 ((true, v_10, i_4) : S_keeper_choice)] _ w0 _ _ := hS
        refine l_end ?_
        cases h
        exact ⟨rfl, hS.weak ⟨od rfl, od rfl, od rfl, od rfl, od rfl, trivial⟩⟩
      have h := ite_f hb hj_16
      refine wp_skip ?_
      cases h
      exact ⟨rfl, hS.weak ⟨od rfl, od rfl, odBx rfl, od rfl, od rfl, trivial⟩⟩
    rintro e a w ⟨rfl, hS⟩
    refine exit_block ?_
    refine et ?_
    refine st_reg mixed (by kernel_rfl) hS ?_
    refine cg (sp_add (od rfl) (odi)) ?_
    refine mv rfl ?_
    refine sn fun a w hS => ?_
    cases h
    exact ⟨k_7, _, _, rfl, hF_7, hS.weak ⟨od rfl, od rfl, od rfl, od rfl, od (congrArg (fun z => some (isV (α := Int) z)) hw_7), trivial⟩⟩
  refine wp_exit ?_
  obtain rfl := (fors_done hF_7 hb).symm
  have h := hr_9
  refine exit_thenE ?_
  refine exit_thenE ?_
  refine exit_here ?_
  refine et ?_
  refine ws ?_
  refine l_start ?_
  have hS := st_box 0 4 hS rfl rfl
  refine s_c hS (sg (sp_loadB ty79 (odB rfl))) rfl fun a w hS hM => ?_
  refine s_storeB (k := 0) (Δ := [(4, Pr.ptr b_1), (35, isV (α := S_keeper_choice) s_6)]) ty79 hS rfl ⟨odBx rfl, od rfl, trivial⟩ ⟨fun _ _ _ _ h => h, fun _ _ _ _ h => h, trivial⟩ rfl (od rfl) fun w hS hM => ?_
  have hS : St _ F0 [Item.box (α := S_keeper_choice) 79 b_1 s_6] _ w0 _ _ := hS
  refine l_end ?_
  refine et ?_
  refine wp_ret ?_
  have hS := st_freezeB 0 4 hS rfl rfl
  cases h
  obtain ⟨v, hr, hv⟩ := run_resC1 Tryz.results33 ty79 (hS.get rfl)
  exact st_ret hS hr hv

theorem f34_ok {p0 : S_keeper_choice} {r : (List Int) × Bool × Int} (h : M.f34 p0 = some r) : CallOK Tryz.prog 34 [isV p0] (isTup [isV r.1, isV r.2.1, isV r.2.2]) := by
  unfold M.f34 at h
  refine callS_of Tryz.func34 rfl Tryz.ntmps34 rfl fun F0 w0 a hS => ?_
  refine ws ?_
  refine st_reg mixed (by kernel_rfl) hS ?_
  refine cg (sp_box (od rfl)) ?_
  refine cg (sp_assign (odnil (α := Int))) ?_
  refine cg (sp_assign (odb)) ?_
  refine cg (sp_assign (odi)) ?_
  refine sn fun a w hS => ?_
  refine et ?_
  refine ws ?_
  refine ws ?_
  refine st_reg mixed (by kernel_rfl) hS ?_
  refine cg (sp_load ty79 (od rfl)) ?_
  refine cg (bd79_ ) ?_
  refine cg (sp_eqlS eq79 rfl eg79 rfl (od rfl) (od rfl)) ?_
  refine sn fun a w hS => ?_
  refine et ?_
  refine st_cond hS rfl (fun hb => ?_) (fun hb => ?_)
  · have h := ite_t hb h
    refine ws ?_
    refine st_reg mixed (by kernel_rfl) hS ?_
    refine cg (sp_assign (odnil (α := Int))) ?_
    refine cg (sp_assign (odb)) ?_
    refine cg (sp_assign (odi)) ?_
    refine sn fun a w hS => ?_
    refine et ?_
    refine wp_ret ?_
    refine exit_thenR ?_
    cases h
    exact st_ret hS (run_results3 Tryz.results34 a w) (⟨_, rfl, hS.get rfl, hS.get rfl, hS.get rfl, trivial⟩)
  have h := ite_f hb h
  refine wp_skip ?_
  refine et ?_
  refine ws ?_
  obtain ⟨v_1, e_2, h⟩ := bind_some h
  refine st_reg mixed (by kernel_rfl) hS ?_
  refine cg (sp_fieldAddr fd79_2 (od rfl)) ?_
  refine cg (sp_load ty76 (od rfl)) ?_
  refine cg (sp_call en57 (f57_ok e_2) ⟨od rfl, trivial⟩) ?_
  refine cg (sp_assign (od rfl)) ?_
  refine cg (sp_assign (odb)) ?_
  refine cg (sp_assign (odi)) ?_
  refine sn fun a w hS => ?_
  refine et ?_
  refine wp_ret ?_
  cases h
  exact st_ret hS (run_results3 Tryz.results34 a w) (⟨_, rfl, hS.get rfl, hS.get rfl, hS.get rfl, trivial⟩)

theorem f11_ok {p0 : S_api_Market} {p1 : Int} {p2 : Int} {p3 : Int} {r : (List Int) × Bool × Int} (h : M.f11 p0 p1 p2 p3 = some r) : CallOK Tryz.prog 11 [isV p0, isV p1, isV p2, isV p3] (isTup [isV r.1, isV r.2.1, isV r.2.2]) := by
  unfold M.f11 at h
  refine callS_of Tryz.func11 rfl Tryz.ntmps11 rfl fun F0 w0 a hS => ?_
  refine ws ?_
  refine st_reg mixed (by kernel_rfl) hS ?_
  refine cg (sp_box (od rfl)) ?_
  refine cg (sp_assign (odnil (α := Int))) ?_
  refine cg (sp_assign (odb)) ?_
  refine cg (sp_assign (odi)) ?_
  refine sn fun a w hS => ?_
  refine et ?_
  refine ws ?_
  refine ws ?_
  obtain ⟨v_1, e_2, h⟩ := bind_some h
  refine st_reg mixed (by kernel_rfl) hS ?_
  refine cg (sp_load ty33 (od rfl)) ?_
  refine mv rfl ?_
  refine mv rfl ?_
  refine cg (sp_buildSlice [.tmp 13, .tmp 14] ([p1, p2] : List Int) sl37 ze3 rfl rfl rfl rfl ⟨od rfl, od rfl, trivial⟩) ?_
  refine mv rfl ?_
  refine cg (sp_buildSlice [.tmp 16] ([p3] : List Int) sl37 ze3 rfl rfl rfl rfl ⟨od rfl, trivial⟩) ?_
  refine cg (bd72_01 (od rfl) (od rfl)) ?_
  refine cg (sp_call en29 (f29_ok e_2) ⟨od rfl, odnil (α := Int), od rfl, trivial⟩) ?_
  refine cg (sp_assign (od rfl)) ?_
  refine sn fun a w hS => ?_
  refine et ?_
  refine ws ?_
  refine st_reg mixed (by kernel_rfl) hS ?_
  refine mv rfl ?_
  refine cg (sp_neq (od rfl) (odi)) ?_
  refine sn fun a w hS => ?_
  refine et ?_
  refine st_cond hS rfl (fun hb => ?_) (fun hb => ?_)
  · have h := ite_t hb h
    refine ws ?_
    refine st_reg mixed (by kernel_rfl) hS ?_
    refine mv rfl ?_
    refine cg (sp_assign (odnil (α := Int))) ?_
    refine cg (sp_assign (odb)) ?_
    refine cg (sp_assign (od rfl)) ?_
    refine sn fun a w hS => ?_
    refine et ?_
    refine wp_ret ?_
    refine exit_thenR ?_
    cases h
    exact st_ret hS (run_results3 Tryz.results11 a w) (⟨_, rfl, hS.get rfl, hS.get rfl, hS.get rfl, trivial⟩)
  have h := ite_f hb h
  refine wp_skip ?_
  refine et ?_
  refine ws ?_
  obtain ⟨v_3, e_4, h⟩ := bind_some h
  obtain ⟨v_5, e_6, h⟩ := bind_some h
  obtain ⟨v_7, e_8, h⟩ := bind_some h
  refine st_reg mixed (by kernel_rfl) hS ?_
  refine cg (sp_load ty33 (od rfl)) ?_
  refine mv rfl ?_
  refine mv rfl ?_
  refine mv rfl ?_
  refine cg (sp_call en32 (f32_ok e_4) ⟨od rfl, od rfl, od rfl, od rfl, trivial⟩) ?_
  refine cg (sp_load ty33 (od rfl)) ?_
  refine cg (sp_call en33 (f33_ok e_6) ⟨od rfl, od rfl, trivial⟩) ?_
  refine cg (sp_call en34 (f34_ok e_8) ⟨od rfl, trivial⟩) ?_
  refine cg (sp_extract (od rfl) rfl) ?_
  refine cg (sp_extract (od rfl) rfl) ?_
  refine cg (sp_extract (od rfl) rfl) ?_
  refine cg (sp_assign (od rfl)) ?_
  refine cg (sp_assign (od rfl)) ?_
  refine cg (sp_assign (od rfl)) ?_
  refine sn fun a w hS => ?_
  refine et ?_
  refine wp_ret ?_
  cases h
  exact st_ret hS (run_results3 Tryz.results11 a w) (⟨_, rfl, hS.get rfl, hS.get rfl, hS.get rfl, trivial⟩)

theorem f12_ok {p0 : List Int} {p1 : List Int} {r : Bool} (h : M.f12 p0 p1 = some r) : CallOK Tryz.prog 12 [isV p0, isV p1] (isV r) := by
  unfold M.f12 at h
  refine callS_of Tryz.func12 rfl Tryz.ntmps12 rfl fun F0 w0 a hS => ?_
  refine ws ?_
  refine st_reg mixed (by kernel_rfl) hS ?_
  refine cg (sp_assign (odb)) ?_
  refine sn fun a w hS => ?_
  refine et ?_
  refine ws ?_
  refine ws ?_
  refine st_reg mixed (by kernel_rfl) hS ?_
  refine mv rfl ?_
  refine cg (sp_len Tryz.underlying37 (od rfl)) ?_
  refine mv rfl ?_
  refine cg (sp_len Tryz.underlying37 (od rfl)) ?_
  refine cg (sp_neq (od rfl) (od rfl)) ?_
  refine sn fun a w hS => ?_
  refine et ?_
  refine st_cond hS rfl (fun hb => ?_) (fun hb => ?_)
  · have h := ite_t hb h
    refine ws ?_
    refine st_reg mixed (by kernel_rfl) hS ?_
    refine cg (sp_assign (odb)) ?_
    refine sn fun a w hS => ?_
    refine et ?_
    refine wp_ret ?_
    refine exit_thenR ?_
    cases h
    exact st_ret hS (run_results1 Tryz.results12 a w) (hS.get rfl)
  have h := ite_f hb h
  refine wp_skip ?_
  refine et ?_
  refine ws ?_
  refine ws ?_
  refine st_reg mixed (by kernel_rfl) hS ?_
  refine mv rfl ?_
  refine cg (sp_len Tryz.underlying37 (od rfl)) ?_
  refine cg (sp_move (odi)) ?_
  refine sn fun a w hS => ?_
  refine et ?_
  refine wp_block ?_
  obtain ⟨o_4, e_5, hr_6⟩ := bind_some h
  refine c_loop (fun K a w => ∃ k i_1 s_3, K = k + 1 ∧ ForI _ _ _ o_4 k i_1 s_3 ∧ St 26 F0 [] [(0, isV (α := List Int) p0), (1, isV (α := List Int) p1), (12, isV (α := Int) (p0.length : Int)), (13, isV (α := Int) i_1)] w0 a w) ?_ ?_ ⟨_, _, _, rfl, for_init e_5, hS.weak ⟨od rfl, od rfl, od rfl, od rfl, trivial⟩⟩
  · rintro a w ⟨_, _, _, hk, _⟩; cases hk
  rintro K a w ⟨k_4, i_1, s_3, hk, hF_4, hS⟩
  obtain rfl := Nat.succ.inj hk
  refine ws ?_
  refine st_reg mixed (by kernel_rfl) hS ?_
  refine cg (sp_lss (od rfl) (od rfl)) ?_
  refine sn fun a w hS => ?_
  refine et ?_
  refine ws ?_
  refine st_cond hS rfl (fun hb => ?_) (fun hb => ?_)
  · refine wp_skip ?_
    refine et ?_
    obtain ⟨k_4, o, rfl, h, hN_4, hL_4, hw_4⟩ := for_more hF_4 hb
    refine ws ?_
    refine wp_block ?_
    refine ws ?_
    refine st_reg mixed (by kernel_rfl) hS ?_
    refine mv rfl ?_
    refine cg (sp_assign (od rfl)) ?_
    refine sn fun a w hS => ?_
    refine et ?_
    refine ws ?_
    obtain ⟨v_7, e_8, h⟩ := bind_some h
    obtain ⟨v_9, e_10, h⟩ := bind_some h
    refine st_reg mixed (by kernel_rfl) hS ?_
    refine mv rfl ?_
    refine mv rfl ?_
    refine cg (sp_indexAddr sl37 (od rfl) (od rfl) e_8) ?_
    refine cg (sp_load ty3 (od rfl)) ?_
    refine mv rfl ?_
    refine mv rfl ?_
    refine cg (sp_indexAddr sl37 (od rfl) (od rfl) e_10) ?_
    refine cg (sp_load ty3 (od rfl)) ?_
    refine cg (sp_neq (od rfl) (od rfl)) ?_
    refine sn fun a w hS => ?_
    refine et ?_
    refine st_cond hS rfl (fun hb => ?_) (fun hb => ?_)
    · have h := ite_t hb h
      refine ws ?_
      refine st_reg mixed (by kernel_rfl) hS ?_
      refine cg (sp_assign (odb)) ?_
      refine sn fun a w hS => ?_
      refine et ?_
      refine wp_ret ?_
      refine exit_blockR ?_
      refine exit_thenR ?_
      cases h
      obtain rfl := hL_4 _ rfl
      have h := (elim_leave hr_6)
      refine exit_thenR ?_
      refine exit_blockR ?_
      refine exit_thenR ?_
      cases h
      exact st_ret hS (run_results1 Tryz.results12 a w) (hS.get rfl)
    have h := ite_f hb h
    refine wp_skip ?_
    refine exit_block ?_
    refine et ?_
    refine st_reg mixed (by kernel_rfl) hS ?_
    refine cg (sp_add (od rfl) (odi)) ?_
    refine mv rfl ?_
    refine sn fun a w hS => ?_
    cases h
    exact ⟨k_4, _, _, rfl, hN_4 _ rfl, hS.weak ⟨od rfl, od rfl, od rfl, od (congrArg (fun z => some (isV (α := Int) z)) hw_4), trivial⟩⟩
  refine wp_exit ?_
  obtain rfl := for_done hF_4 hb
  have h := elim_again hr_6
  refine exit_thenE ?_
  refine exit_thenE ?_
  refine exit_here ?_
  refine et ?_
  refine ws ?_
  refine st_reg mixed (by kernel_rfl) hS ?_
  refine cg (sp_assign (odb)) ?_
  refine sn fun a w hS => ?_
  refine et ?_
  refine wp_ret ?_
  cases h
  exact st_ret hS (run_results1 Tryz.results12 a w) (hS.get rfl)

theorem f35_ok {p0 : S_api_Market} {p1 : Int} {r : (List (List (Vector Int 2)))} (h : M.f35 p0 p1 = some r) : CallOK Tryz.prog 35 [isV p0, isV p1] (isV r) := by
  unfold M.f35 at h
  refine callS_of Tryz.func35 rfl Tryz.ntmps35 rfl fun F0 w0 a hS => ?_
  refine ws ?_
  refine st_reg mixed (by kernel_rfl) hS ?_
  refine cg (sp_box (od rfl)) ?_
  refine cg (sp_assign (odnil (α := List (Vector Int 2)))) ?_
  refine sn fun a w hS => ?_
  refine et ?_
  refine ws ?_
  obtain ⟨q_1, e_2, h⟩ := bind_some h
  refine l_start ?_
  refine s_c hS (sg (sp_fieldAddr fd33_0 (od rfl))) rfl fun a w hS hM => ?_
  refine s_c hS (sg (sp_load ty3 (od rfl))) rfl fun a w hS hM => ?_
  refine s_makeT (E := 52) sl41 ze53 zv53 hS (od rfl) e_2 rfl fun a w u_3 hS hM => ?_
  have hS : St _ F0 [Item.tab (α := Vector Int 2) 53 52 u_3 (ob u_3) (List.replicate (List.length q_1) (.slice none 0 0)) q_1] _ w0 _ _ := hS
  refine s_c hS (sg (sp_assign (od rfl))) rfl fun a w hS hM => ?_
  refine l_end ?_
  refine et ?_
  refine ws ?_
  refine ws ?_
  obtain ⟨v_4, e_5, h⟩ := bind_some h
  refine st_reg mixed (by kernel_rfl) hS ?_
  refine cg (sp_fieldAddr fd33_2 (od rfl)) ?_
  refine cg (sp_load ty31 (od rfl)) ?_
  refine cg (sp_len Tryz.underlying31 (od rfl)) ?_
  refine cg (sp_shl (odi) (od rfl) e_5) ?_
  refine cg (sp_move (odi)) ?_
  refine sn fun a w hS => ?_
  refine et ?_
  refine wp_block ?_
  obtain ⟨o_9, e_10, hr_11⟩ := bind_some h
  refine c_loop (fun K a w => ∃ k i_6 s_8, ∃ o_12 : Nat → Bool, ∃ rs_13 : List Value, K = k + 1 ∧ ForT _ _ _ o_9 k i_6 s_8 ∧ St 105 F0 [Item.tab (α := Vector Int 2) 53 52 u_3 o_12 rs_13 s_8] [(1, isV (α := Int) p1), (2, isA (α := S_api_Market) p0), (5, Pr.is u_3), (21, isV (α := Int) v_4), (22, isV (α := Int) i_6)] w0 a w) ?_ ?_ ⟨_, _, _, (ob u_3), (List.replicate (List.length q_1) (.slice none 0 0)), rfl, fors_init e_10, hS.weak ⟨od rfl, od rfl, od rfl, od rfl, od rfl, trivial⟩⟩
  · rintro a w ⟨_, _, _, _, _, hk, _⟩; cases hk
  rintro K a w ⟨k_9, i_6, s_8, o_12, rs_13, hk, hF_9, hS⟩
  obtain rfl := Nat.succ.inj hk
  refine ws ?_
  refine st_reg mixed (by kernel_rfl) hS ?_
  refine cg (sp_lss (od rfl) (od rfl)) ?_
  refine sn fun a w hS => ?_
  refine et ?_
  refine ws ?_
  refine st_cond hS rfl (fun hb => ?_) (fun hb => ?_)
  · refine wp_skip ?_
    refine et ?_
    obtain ⟨k_9, s', rfl, h, hF_9, hw_9⟩ := fors_more hF_9 hb
    refine ws ?_
    refine wp_block ?_
    refine ws ?_
    refine st_reg mixed (by kernel_rfl) hS ?_
    refine mv rfl ?_
    refine cg (sp_assign (od rfl)) ?_
    refine sn fun a w hS => ?_
    refine et ?_
    refine ws ?_
    obtain ⟨v_14, e_15, h⟩ := bind_some h
    obtain ⟨v_16, e_17, h⟩ := bind_some h
    refine st_reg mixed (by kernel_rfl) hS ?_
    refine cg (sp_load ty33 (od rfl)) ?_
    refine mv rfl ?_
    refine cg (sp_call en30 (f30_ok e_15) ⟨od rfl, od rfl, trivial⟩) ?_
    refine mv rfl ?_
    refine cg (sp_load ty33 (od rfl)) ?_
    refine cg (sp_call en45 (f45_ok e_17) ⟨od rfl, od rfl, trivial⟩) ?_
    refine cg (sp_assign (od rfl)) ?_
    refine cg (sp_assign (od rfl)) ?_
    refine sn fun a w hS => ?_
    refine et ?_
    refine ws ?_
    have hS := st_tab 0 5 hS rfl rfl
    refine st_reg mixed (by kernel_rfl) hS ?_
    refine mv rfl ?_
    refine cg (sp_lenT Tryz.underlying41 (od rfl)) ?_
    refine cg (sp_move (odi)) ?_
    refine sn fun a w hS => ?_
    refine et ?_
    refine wp_block ?_
    have hS := hS.weak (Δ := [(1, isV (α := Int) p1), (2, isA (α := S_api_Market) p0), (5, Pr.is u_3), (7, isV (α := List (List Int)) v_14), (8, isV (α := Int) v_16), (21, isV (α := Int) v_4), (22, isV (α := Int) i_6), (32, isV (α := Int) (s_8.length : Int)), (33, isV (α := Int) 0)]) ⟨od rfl, od rfl, odTab rfl, od rfl, od rfl, od rfl, od rfl, od rfl, od rfl, trivial⟩
    obtain ⟨o_21, e_22, hr_23⟩ := bind_some h
    refine c_loop (fun K a w => ∃ k i_18 s_20, ∃ o_24 : Nat → Bool, ∃ rs_25 : List Value, K = k + 1 ∧ ForT _ _ _ o_21 k i_18 s_20 ∧ St 105 F0 [Item.tab (α := Vector Int 2) 53 52 u_3 o_24 rs_25 s_20] [(1, isV (α := Int) p1), (2, isA (α := S_api_Market) p0), (5, Pr.is u_3), (7, isV (α := List (List Int)) v_14), (8, isV (α := Int) v_16), (21, isV (α := Int) v_4), (22, isV (α := Int) i_6), (32, isV (α := Int) (s_8.length : Int)), (33, isV (α := Int) i_18)] w0 a w) ?_ ?_ ⟨_, _, _, o_12, rs_13, rfl, fors_init e_22, hS.weak ⟨od rfl, od rfl, od rfl, od rfl, od rfl, od rfl, od rfl, od rfl, od rfl, trivial⟩⟩
    · rintro a w ⟨_, _, _, _, _, hk, _⟩; cases hk
    rintro K a w ⟨k_21, i_18, s_20, o_24, rs_25, hk, hF_21, hS⟩
    obtain rfl := Nat.succ.inj hk
    refine ws ?_
    refine st_reg mixed (by kernel_rfl) hS ?_
    refine cg (sp_lss (od rfl) (od rfl)) ?_
    refine sn fun a w hS => ?_
    refine et ?_
    refine ws ?_
    refine st_cond hS rfl (fun hb => ?_) (fun hb => ?_)
    · refine wp_skip ?_
      refine et ?_
      obtain ⟨k_21, s', rfl, h, hF_21, hw_21⟩ := fors_more hF_21 hb
      refine ws ?_
      refine wp_block ?_
      refine ws ?_
      refine st_reg mixed (by kernel_rfl) hS ?_
      refine mv rfl ?_
      refine cg (sp_assign (od rfl)) ?_
      refine sn fun a w hS => ?_
      refine et ?_
      refine ws ?_
      obtain ⟨v_26, e_27, h⟩ := bind_some h
      obtain ⟨v_28, e_29, h⟩ := bind_some h
      refine st_reg mixed (by kernel_rfl) hS ?_
      refine mv rfl ?_
      refine mv rfl ?_
      refine cg (sp_indexAddr sl74 (od rfl) (od rfl) e_27) ?_
      refine cg (sp_load ty37 (od rfl)) ?_
      refine mv rfl ?_
      refine cg (sp_indexAddr sl37 (od rfl) (od rfl) e_29) ?_
      refine cg (sp_load ty3 (od rfl)) ?_
      refine cg (sp_lss (od rfl) (odi)) ?_
      refine sn fun a w hS => ?_
      refine et ?_
      obtain ⟨y_31, hj_30, h⟩ := bind_some h
      refine wp_mono (Q := fun e a w => e = Exit.normal ∧ ∃ o_32 : Nat → Bool, ∃ rs_33 : List Value, St 105 F0 [Item.tab (α := Vector Int 2) 53 52 u_3 o_32 rs_33 y_31] [(1, isV (α := Int) p1), (2, isA (α := S_api_Market) p0), (5, Pr.is u_3), (7, isV (α := List (List Int)) v_14), (8, isV (α := Int) v_16), (21, isV (α := Int) v_4), (22, isV (α := Int) i_6), (32, isV (α := Int) (s_8.length : Int)), (33, isV (α := Int) i_18)] w0 a w) ?_ ?_
      · refine st_cond hS rfl (fun hb => ?_) (fun hb => ?_)
        · have h := ite_t hb hj_30
          have hS := st_tab 0 5 hS rfl rfl
          obtain ⟨v_34, e_35, h⟩ := bind_some h
          obtain ⟨v_36, e_37, h⟩ := bind_some h
          obtain ⟨v_38, e_39, h⟩ := bind_some h
          obtain ⟨r_41, e_42, h⟩ := bind_some h
          obtain ⟨z_43, e_44, h⟩ := bind_some h
          obtain ⟨v_46, e_47, h⟩ := bind_some h
          obtain ⟨z_48, e_49, h⟩ := bind_some h
          refine st_float mixed [1, 1, 0, 0, 0, 0, 0, 0, 0, 0, 0, 0, 0, 0, 0, 0, 2, 2, 2] (by kernel_rfl) (by kernel_rfl) hS ?_
          refine sfF (sy (sy_move (od rfl))) ?_
          refine sfF (sy (sy_move (od rfl))) ?_
          refine sfA (sg (sp_move (od rfl))) ?_
          refine sfA (sg (sp_move (od rfl))) ?_
          refine sfA (sg (sp_indexAddrT Tryz.underlying41 sz53 (od rfl) (od rfl) e_35)) ?_
          refine sfA (sg (sp_loadTR Tryz.underlying53 (od rfl))) ?_
          refine sfA (sg (sp_move (od rfl))) ?_
          refine sfA (sg (sp_move (od rfl))) ?_
          refine sfA (sg (sp_move (od rfl))) ?_
          refine sfA (sg (sp_indexAddr sl74 (od rfl) (od rfl) e_37)) ?_
          refine sfA (sg (sp_load ty37 (od rfl))) ?_
          refine sfA (sg (sp_move (od rfl))) ?_
          refine sfA (sg (sp_indexAddr sl37 (od rfl) (od rfl) e_39)) ?_
          refine sfA (sg (sp_load ty3 (od rfl))) ?_
          refine sfA (sg (bd52 (od rfl) (od rfl))) ?_
          refine sfA (sg (sp_buildSlice [.tmp 58] ([(#v[v_16, v_38] : Vector Int 2)] : List (Vector Int 2)) sl53 ze52 rfl rfl rfl rfl ⟨od rfl, trivial⟩)) ?_
          refine sfT ?_
          refine sfT ?_
          refine sfT ?_
          refine sfN fun c a w hS hC => ?_
          refine ls ?_
          obtain ⟨u_40, hu, hT, hS⟩ := st_takeT (t := 49) 0 i_18.toNat hS rfl (odTHn rfl) (idx_get e_42)
          have hC := hT _ hC
          refine s_append (k := 1) (Δ := [(1, isV (α := Int) p1), (2, isA (α := S_api_Market) p0), (5, Pr.is u_3), (7, isV (α := List (List Int)) v_14), (8, isV (α := Int) v_16), (21, isV (α := Int) v_4), (22, isV (α := Int) i_6), (32, isV (α := Int) (s_8.length : Int)), (33, isV (α := Int) i_18), (44, Pr.is u_3), (45, isV (α := Int) i_18), (49, Pr.is u_40), (59, isV (α := List (Vector Int 2)) ([(#v[v_16, v_38] : Vector Int 2)] : List (Vector Int 2)))]) sl53 ze52 hS rfl ⟨od rfl, od rfl, odTab rfl, od rfl, od rfl, od rfl, od rfl, od rfl, od rfl, odTab rfl, od rfl, od rfl, od rfl, trivial⟩ ⟨fun _ _ _ _ h => h, fun _ _ _ _ h => h, fun _ _ _ _ h => h, fun _ _ _ _ h => h, fun _ _ _ _ h => h, fun _ _ _ _ h => h, fun _ _ _ _ h => h, fun _ _ _ _ h => h, fun _ _ _ _ h => h, fun _ _ _ _ h => h, fun _ _ _ _ h => h, fun _ _ _ _ h => h, fun _ _ _ _ h => h, trivial⟩ (od rfl) (od rfl) e_44 rfl fun a w u_45 hS hM => ?_
          have hS : St _ F0 [Item.hole (α := Vector Int 2) 53 52 u_3 (fun b => o_24 b && !ob u_40 b) i_18.toNat rs_25 s_20, Item.sl (α := Vector Int 2) 52 u_45 z_43] _ w0 _ _ := hS
          have hC := Mem.le_trans hC hM
          refine s_next hC ?_
          refine ls ?_
          have hS := st_vnH 0 5 hS rfl rfl
          have hS := st_vnH 0 44 hS rfl rfl
          refine s_c hS (sg (sp_indexAddrVn Tryz.underlying41 sz53 (od rfl) (od rfl) e_47)) rfl fun a w hS hM => ?_
          have hC := Mem.le_trans hC hM
          refine s_next hC ?_
          refine ls ?_
          refine s_storeH (k := 0) (k2 := 1) (i := i_18) (Δ := [(1, isV (α := Int) p1), (2, isA (α := S_api_Market) p0), (5, Pr.is u_3), (7, isV (α := List (List Int)) v_14), (8, isV (α := Int) v_16), (21, isV (α := Int) v_4), (22, isV (α := Int) i_6), (32, isV (α := Int) (s_8.length : Int)), (33, isV (α := Int) i_18), (60, Pr.is u_45), (61, isTP u_3 i_18.toNat)]) Tryz.underlying53 sz53 hS rfl rfl rfl ⟨od rfl, od rfl, odVn rfl, od rfl, od rfl, od rfl, od rfl, od rfl, od rfl, od rfl, od rfl, trivial⟩ ⟨fun _ _ _ _ h => h, fun _ _ _ _ h => h, fun _ _ _ _ h => h, fun _ _ _ _ h => h, fun _ _ _ _ h => h, fun _ _ _ _ h => h, fun _ _ _ _ h => h, fun _ _ _ _ h => h, fun _ _ _ _ h => h, fun _ _ _ _ h => h, fun _ _ _ _ h => h, trivial⟩ (od rfl) (od rfl) e_49 fun w o_50 hS hM => ?_
          have hS : St _ F0 [Item.tab (α := Vector Int 2) 53 52 u_3 o_50 (List.set rs_25 i_18.toNat u_45) z_48] _ w0 _ _ := hS
          have hC := Mem.le_trans hC hM
          refine s_next hC ?_
          refine s_done ?_
          cases h
          exact ⟨rfl, o_50, (List.set rs_25 i_18.toNat u_45), hS.weak ⟨od rfl, od rfl, od rfl, od rfl, od rfl, od rfl, od rfl, od rfl, od rfl, trivial⟩⟩
        have h := ite_f hb hj_30
        refine wp_skip ?_
        cases h
        exact ⟨rfl, o_24, rs_25, hS.weak ⟨od rfl, od rfl, od rfl, od rfl, od rfl, od rfl, od rfl, od rfl, od rfl, trivial⟩⟩
      rintro e a w ⟨rfl, o_32, rs_33, hS⟩
      refine exit_block ?_
      refine et ?_
      refine st_reg mixed (by kernel_rfl) hS ?_
      refine cg (sp_add (od rfl) (odi)) ?_
      refine mv rfl ?_
      refine sn fun a w hS => ?_
      cases h
      exact ⟨k_21, _, _, o_32, rs_33, rfl, hF_21, hS.weak ⟨od rfl, od rfl, od rfl, od rfl, od rfl, od rfl, od rfl, od rfl, od (congrArg (fun z => some (isV (α := Int) z)) hw_21), trivial⟩⟩
    refine wp_exit ?_
    obtain rfl := (fors_done hF_21 hb).symm
    have h := hr_23
    refine exit_thenE ?_
    refine exit_thenE ?_
    refine exit_here ?_
    refine exit_block ?_
    refine et ?_
    refine st_reg mixed (by kernel_rfl) hS ?_
    refine cg (sp_add (od rfl) (odi)) ?_
    refine mv rfl ?_
    refine sn fun a w hS => ?_
    cases h
    exact ⟨k_9, _, _, o_24, rs_25, rfl, hF_9, hS.weak ⟨od rfl, od rfl, od rfl, od rfl, od (congrArg (fun z => some (isV (α := Int) z)) hw_9), trivial⟩⟩
  refine wp_exit ?_
  obtain rfl := (fors_done hF_9 hb).symm
  have h := hr_11
  refine exit_thenE ?_
  refine exit_thenE ?_
  refine exit_here ?_
  refine et ?_
  refine ws ?_
  refine ws ?_
  have hS := st_tab 0 5 hS rfl rfl
  refine st_reg mixed (by kernel_rfl) hS ?_
  refine mv rfl ?_
  refine cg (sp_lenT Tryz.underlying41 (od rfl)) ?_
  refine cg (sp_move (odi)) ?_
  refine sn fun a w hS => ?_
  refine et ?_
  refine wp_block ?_
  have hS := hS.weak (Δ := [(5, Pr.is u_3), (64, Pr.is u_3), (65, isV (α := Int) (s_8.length : Int)), (66, isV (α := Int) 0)]) ⟨odTab rfl, odTab rfl, od rfl, od rfl, trivial⟩
  obtain ⟨o_54, e_55, hr_56⟩ := bind_some h
  refine c_loop (fun K a w => ∃ k i_51 s_53, ∃ o_57 : Nat → Bool, ∃ rs_58 : List Value, K = k + 1 ∧ ForT _ _ _ o_54 k i_51 s_53 ∧ St 105 F0 [Item.tab (α := Vector Int 2) 53 52 u_3 o_57 rs_58 s_53] [(5, Pr.is u_3), (64, Pr.is u_3), (65, isV (α := Int) (s_8.length : Int)), (66, isV (α := Int) i_51)] w0 a w) ?_ ?_ ⟨_, _, _, o_12, rs_13, rfl, fors_init e_55, hS.weak ⟨od rfl, od rfl, od rfl, od rfl, trivial⟩⟩
  · rintro a w ⟨_, _, _, _, _, hk, _⟩; cases hk
  rintro K a w ⟨k_54, i_51, s_53, o_57, rs_58, hk, hF_54, hS⟩
  obtain rfl := Nat.succ.inj hk
  refine ws ?_
  refine st_reg mixed (by kernel_rfl) hS ?_
  refine cg (sp_lss (od rfl) (od rfl)) ?_
  refine sn fun a w hS => ?_
  refine et ?_
  refine ws ?_
  refine st_cond hS rfl (fun hb => ?_) (fun hb => ?_)
  · refine wp_skip ?_
    refine et ?_
    obtain ⟨k_54, s', rfl, h, hF_54, hw_54⟩ := fors_more hF_54 hb
    refine ws ?_
    refine wp_block ?_
    refine ws ?_
    have hS := st_tab 0 5 hS rfl rfl
    have hS := st_tab 0 64 hS rfl rfl
    obtain ⟨v_59, e_60, h⟩ := bind_some h
    refine st_reg mixed (by kernel_rfl) hS ?_
    refine mv rfl ?_
    refine cg (sp_indexAddrT Tryz.underlying41 sz53 (od rfl) (od rfl) e_60) ?_
    refine cg (sp_loadTR Tryz.underlying53 (od rfl)) ?_
    refine cg (sp_assign (od rfl)) ?_
    refine cg (sp_assign (od rfl)) ?_
    refine sn fun a w hS => ?_
    refine et ?_
    refine ws ?_
    obtain ⟨r_62, e_63, h⟩ := bind_some h
    obtain ⟨z_64, e_65, h⟩ := bind_some h
    refine l_start ?_
    refine s_c hS (sg (sp_move (od rfl))) rfl fun a w hS hM => ?_
    obtain ⟨u_61, hu, hT, hS⟩ := st_takeT (t := 71) 0 i_51.toNat hS rfl (odTHn rfl) (idx_get e_63)
    have hS := st_alsoT (q := 70) hS hu (odTHn rfl)
    have hS := st_alsoT (q := 11) hS hu (odTHn rfl)
    refine s_callM (k := 1) (Δ := [(5, Pr.is u_3), (10, isV (α := Int) i_51), (11, Pr.is u_61), (64, Pr.is u_3), (65, isV (α := Int) (s_8.length : Int)), (66, isV (α := Int) i_51), (71, Pr.is u_61)]) en58 (f58_ok e_65) hS rfl ⟨odTab rfl, od rfl, od rfl, odTab rfl, od rfl, od rfl, od rfl, trivial⟩ ⟨fun _ _ _ _ h => h, fun _ _ _ _ h => h, fun _ _ _ _ h => h, fun _ _ _ _ h => h, fun _ _ _ _ h => h, fun _ _ _ _ h => h, fun _ _ _ _ h => h, trivial⟩ (od rfl) ⟨odc (Γ := []) fun _ => rfl, trivial⟩ rfl fun a w hS hM => ?_
    have hS : St _ F0 [Item.hole (α := Vector Int 2) 53 52 u_3 (fun b => o_57 b && !ob u_61 b) i_51.toNat rs_58 s_53, Item.sl (α := Vector Int 2) 52 u_61 z_64] _ w0 _ _ := hS
    refine l_end ?_
    refine et ?_
    refine ws ?_
    refine st_reg mixed (by kernel_rfl) hS ?_
    refine cg (sp_assign (φ := Pr.is (.slice none 0 0)) (odc fun _ => rfl)) ?_
    refine sn fun a w hS => ?_
    have hS := st_nil (α := Vector Int 2) 52 hS
    have hS : St _ F0 [Item.hole (α := Vector Int 2) 53 52 u_3 (fun b => o_57 b && !ob u_61 b) i_51.toNat rs_58 s_53, Item.sl (α := Vector Int 2) 52 u_61 z_64, Item.sl (α := Vector Int 2) 52 (.slice none 0 0) ([] : List (Vector Int 2))] _ w0 _ _ := hS
    refine et ?_
    refine ws ?_
    refine ws ?_
    have hS := st_os 1 11 hS rfl rfl
    have hS := st_os 1 71 hS rfl rfl
    refine st_reg mixed (by kernel_rfl) hS ?_
    refine mv rfl ?_
    refine cg (sp_lenOS Tryz.underlying53 (od rfl)) ?_
    refine cg (sp_move (odi)) ?_
    refine sn fun a w hS => ?_
    refine et ?_
    refine wp_block ?_
    have hS := hS.weak (Δ := [(5, Pr.is u_3), (10, isV (α := Int) i_51), (12, Pr.is (.slice none 0 0)), (64, Pr.is u_3), (65, isV (α := Int) (s_8.length : Int)), (66, isV (α := Int) i_51), (73, Pr.is u_61), (74, isV (α := Int) (z_64.length : Int)), (75, isV (α := Int) 0)]) ⟨od rfl, od rfl, od rfl, od rfl, od rfl, od rfl, odOS rfl, od rfl, od rfl, trivial⟩
    obtain ⟨o_69, e_70, hr_71⟩ := bind_some h
    refine c_loop (fun K a w => ∃ k i_66 s_68, ∃ u_72 : Value, K = k + 1 ∧ ForT _ _ _ o_69 k i_66 s_68 ∧ St 105 F0 [Item.hole (α := Vector Int 2) 53 52 u_3 (fun b => o_57 b && !ob u_61 b) i_51.toNat rs_58 s_53, Item.sl (α := Vector Int 2) 52 u_61 z_64, Item.sl (α := Vector Int 2) 52 u_72 s_68] [(5, Pr.is u_3), (10, isV (α := Int) i_51), (12, Pr.is u_72), (64, Pr.is u_3), (65, isV (α := Int) (s_8.length : Int)), (66, isV (α := Int) i_51), (73, Pr.is u_61), (74, isV (α := Int) (z_64.length : Int)), (75, isV (α := Int) i_66)] w0 a w) ?_ ?_ ⟨_, _, _, (.slice none 0 0), rfl, fors_init e_70, hS.weak ⟨od rfl, od rfl, od rfl, od rfl, od rfl, od rfl, od rfl, od rfl, od rfl, trivial⟩⟩
    · rintro a w ⟨_, _, _, _, hk, _⟩; cases hk
    rintro K a w ⟨k_69, i_66, s_68, u_72, hk, hF_69, hS⟩
    obtain rfl := Nat.succ.inj hk
    refine ws ?_
    refine st_reg mixed (by kernel_rfl) hS ?_
    refine cg (sp_lss (od rfl) (od rfl)) ?_
    refine sn fun a w hS => ?_
    refine et ?_
    refine ws ?_
    refine st_cond hS rfl (fun hb => ?_) (fun hb => ?_)
    · refine wp_skip ?_
      refine et ?_
      obtain ⟨k_69, s', rfl, h, hF_69, hw_69⟩ := fors_more hF_69 hb
      refine ws ?_
      refine wp_block ?_
      refine ws ?_
      obtain ⟨v_73, e_74, h⟩ := bind_some h
      refine l_start ?_
      have hS := st_os 1 73 hS rfl rfl
      refine s_c hS (sg (sp_indexAddrOS sl53 (od rfl) (od rfl) e_74)) rfl fun a w hS hM => ?_
      refine s_c hS (sg (sp_loadEA ty52 (od rfl))) rfl fun a w hS hM => ?_
      refine s_allocStore ze52 hS (od rfl) (fun k hk => by cases hk; rfl) rfl fun a w hS hM => ?_
      refine l_end ?_
      refine et ?_
      refine ws ?_
      have hS := st_os 2 12 hS rfl rfl
      obtain ⟨v_75, e_76, h⟩ := bind_some h
      obtain ⟨v_77, e_78, h⟩ := bind_some h
      obtain ⟨v_79, e_80, h⟩ := bind_some h
      refine st_reg mixed (by kernel_rfl) hS ?_
      refine mv rfl ?_
      refine cg (sp_lenOS Tryz.underlying53 (od rfl)) ?_
      refine cg (sp_eql (od rfl) (odi)) ?_
      refine mv rfl ?_
      refine sc (sgF rfl fun hG => sp_indexAddrA ar52 (od rfl) (odi) (guard_some e_76 hG)) ?_
      refine sc (sgF rfl fun hG => sp_load ty3 (odw rfl hG)) ?_
      refine sc (sgF rfl fun hG => sp_move (od rfl)) ?_
      refine sc (sgF rfl fun hG => sp_move (od rfl)) ?_
      refine sc (sgF rfl fun hG => sp_lenOS Tryz.underlying53 (odw rfl hG)) ?_
      refine sc (sgF rfl fun hG => sp_sub (odw rfl hG) (odi)) ?_
      refine sc (sgF rfl fun hG => sp_indexAddrOS sl53 (odw rfl hG) (odw rfl hG) (guard_some e_78 hG)) ?_
      refine sc (sgF rfl fun hG => sp_indexAddrAB ar52 (odEAB (odw rfl hG)) (odi) (guard_some e_80 hG)) ?_
      refine sc (sgF rfl fun hG => sp_loadB ty3 (odw rfl hG)) ?_
      refine sc (sgF rfl fun hG => sp_lss (odw rfl hG) (odw rfl hG)) ?_
      refine cg (sp_pickOr (od rfl) fun hg => odw rfl (not_t hg)) ?_
      refine sn fun a w hS => ?_
      refine et ?_
      obtain ⟨y_82, hj_81, h⟩ := bind_some h
      refine wp_mono (Q := fun e a w => e = Exit.normal ∧ ∃ u_83 : Value, St 105 F0 [Item.hole (α := Vector Int 2) 53 52 u_3 (fun b => o_57 b && !ob u_61 b) i_51.toNat rs_58 s_53, Item.sl (α := Vector Int 2) 52 u_61 z_64, Item.sl (α := Vector Int 2) 52 u_83 y_82] [(5, Pr.is u_3), (10, isV (α := Int) i_51), (12, Pr.is u_83), (64, Pr.is u_3), (65, isV (α := Int) (s_8.length : Int)), (66, isV (α := Int) i_51), (73, Pr.is u_61), (74, isV (α := Int) (z_64.length : Int)), (75, isV (α := Int) i_66)] w0 a w) ?_ ?_
      · refine st_cond hS rfl (fun hb => ?_) (fun hb => ?_)
        · have h := ite_t hb hj_81
          obtain ⟨z_84, e_85, h⟩ := bind_some h
          refine l_start ?_
          refine s_c hS (sg (sp_move (od rfl))) rfl fun a w hS hM => ?_
          refine s_c hS (sg (sp_load ty52 (od rfl))) rfl fun a w hS hM => ?_
          refine s_c hS (sg (sp_buildSlice [.tmp 95] ([v_73] : List (Vector Int 2)) sl53 ze52 rfl rfl rfl rfl ⟨od rfl, trivial⟩)) rfl fun a w hS hM => ?_
          refine s_append (k := 2) (Δ := [(5, Pr.is u_3), (10, isV (α := Int) i_51), (64, Pr.is u_3), (65, isV (α := Int) (s_8.length : Int)), (66, isV (α := Int) i_51), (73, Pr.is u_61), (74, isV (α := Int) (z_64.length : Int)), (75, isV (α := Int) i_66), (94, Pr.is u_72), (96, isV (α := List (Vector Int 2)) ([v_73] : List (Vector Int 2)))]) sl53 ze52 hS rfl ⟨od rfl, od rfl, od rfl, od rfl, od rfl, odOS rfl, od rfl, od rfl, odOS rfl, od rfl, trivial⟩ ⟨fun _ _ _ _ h => h, fun _ _ _ _ h => h, fun _ _ _ _ h => h, fun _ _ _ _ h => h, fun _ _ _ _ h => h, fun _ _ _ _ h => h, fun _ _ _ _ h => h, fun _ _ _ _ h => h, fun _ _ _ _ h => h, fun _ _ _ _ h => h, trivial⟩ (od rfl) (od rfl) e_85 rfl fun a w u_86 hS hM => ?_
          have hS : St _ F0 [Item.hole (α := Vector Int 2) 53 52 u_3 (fun b => o_57 b && !ob u_61 b) i_51.toNat rs_58 s_53, Item.sl (α := Vector Int 2) 52 u_61 z_64, Item.sl (α := Vector Int 2) 52 u_86 z_84] _ w0 _ _ := hS
          refine s_c hS (sg (sp_assign (od rfl))) rfl fun a w hS hM => ?_
          refine l_end ?_
          cases h
          exact ⟨rfl, u_86, hS.weak ⟨od rfl, od rfl, od rfl, od rfl, od rfl, od rfl, od rfl, od rfl, od rfl, trivial⟩⟩
        have h := ite_f hb hj_81
        refine wp_skip ?_
        cases h
        exact ⟨rfl, u_72, hS.weak ⟨od rfl, od rfl, odOS rfl, od rfl, od rfl, od rfl, odOS rfl, od rfl, od rfl, trivial⟩⟩
      rintro e a w ⟨rfl, u_83, hS⟩
      refine exit_block ?_
      refine et ?_
      refine st_reg mixed (by kernel_rfl) hS ?_
      refine cg (sp_add (od rfl) (odi)) ?_
      refine mv rfl ?_
      refine sn fun a w hS => ?_
      cases h
      exact ⟨k_69, _, _, u_83, rfl, hF_69, hS.weak ⟨od rfl, od rfl, od rfl, od rfl, od rfl, od rfl, od rfl, od rfl, od (congrArg (fun z => some (isV (α := Int) z)) hw_69), trivial⟩⟩
    refine wp_exit ?_
    obtain rfl := (fors_done hF_69 hb).symm
    have h := hr_71
    refine exit_thenE ?_
    refine exit_thenE ?_
    refine exit_here ?_
    refine et ?_
    obtain ⟨v_87, e_88, h⟩ := bind_some h
    obtain ⟨z_89, e_90, h⟩ := bind_some h
    have hS := st_drop 1 hS
    refine l_start ?_
    refine s_c hS (sg (sp_move (od rfl))) rfl fun a w hS hM => ?_
    refine s_c hS (sg (sp_move (od rfl))) rfl fun a w hS hM => ?_
    refine s_c hS (sg (sp_move (od rfl))) rfl fun a w hS hM => ?_
    have hS := st_vnH 0 5 hS rfl rfl
    have hS := st_vnH 0 64 hS rfl rfl
    have hS := st_vnH 0 99 hS rfl rfl
    refine s_c hS (sg (sp_indexAddrVn Tryz.underlying41 sz53 (od rfl) (od rfl) e_88)) rfl fun a w hS hM => ?_
    refine s_storeH (k := 0) (k2 := 1) (i := i_51) (Δ := [(5, Pr.is u_3), (64, Pr.is u_3), (65, isV (α := Int) (s_8.length : Int)), (66, isV (α := Int) i_51), (101, Pr.is u_72), (102, isTP u_3 i_51.toNat)]) Tryz.underlying53 sz53 hS rfl rfl rfl ⟨odVn rfl, odVn rfl, od rfl, od rfl, od rfl, od rfl, trivial⟩ ⟨fun _ _ _ _ h => h, fun _ _ _ _ h => h, fun _ _ _ _ h => h, fun _ _ _ _ h => h, fun _ _ _ _ h => h, fun _ _ _ _ h => h, trivial⟩ (od rfl) (od rfl) e_90 fun w o_91 hS hM => ?_
    have hS : St _ F0 [Item.tab (α := Vector Int 2) 53 52 u_3 o_91 (List.set rs_58 i_51.toNat u_72) z_89] _ w0 _ _ := hS
    refine l_end ?_
    refine exit_block ?_
    refine et ?_
    refine st_reg mixed (by kernel_rfl) hS ?_
    refine cg (sp_add (od rfl) (odi)) ?_
    refine mv rfl ?_
    refine sn fun a w hS => ?_
    cases h
    exact ⟨k_54, _, _, o_91, (List.set rs_58 i_51.toNat u_72), rfl, hF_54, hS.weak ⟨od rfl, od rfl, od rfl, od (congrArg (fun z => some (isV (α := Int) z)) hw_54), trivial⟩⟩
  refine wp_exit ?_
  obtain rfl := (fors_done hF_54 hb).symm
  have h := hr_56
  refine exit_thenE ?_
  refine exit_thenE ?_
  refine exit_here ?_
  refine et ?_
  refine ws ?_
  refine st_reg mixed (by kernel_rfl) hS ?_
  refine mv rfl ?_
  refine cg (sp_assign (od rfl)) ?_
  refine sn fun a w hS => ?_
  refine et ?_
  refine wp_ret ?_
  have hS0 := hS
  have hS := st_freezeT 0 4 hS rfl rfl
  have hS := st_also (t := 4) (q := 5) hS0 hS rfl rfl rfl
  have hS := st_also (t := 4) (q := 64) hS0 hS rfl rfl rfl
  have hS := st_also (t := 4) (q := 104) hS0 hS rfl rfl rfl
  cases h
  exact st_ret hS (run_results1 Tryz.results35 a w) (hS.get rfl)

theorem f13_ok {p0 : S_api_Market} {p1 : Int} {r : (List (List (Vector Int 2))) × Int} (h : M.f13 p0 p1 = some r) : CallOK Tryz.prog 13 [isV p0, isV p1] (isTup [isV r.1, isV r.2]) := by
  unfold M.f13 at h
  refine callS_of Tryz.func13 rfl Tryz.ntmps13 rfl fun F0 w0 a hS => ?_
  refine ws ?_
  refine st_reg mixed (by kernel_rfl) hS ?_
  refine cg (sp_box (od rfl)) ?_
  refine cg (sp_assign (odnil (α := List (Vector Int 2)))) ?_
  refine cg (sp_assign (odi)) ?_
  refine sn fun a w hS => ?_
  refine et ?_
  refine ws ?_
  refine ws ?_
  obtain ⟨v_1, e_2, h⟩ := bind_some h
  refine st_reg mixed (by kernel_rfl) hS ?_
  refine cg (sp_load ty33 (od rfl)) ?_
  refine mv rfl ?_
  refine cg (sp_buildSlice [.tmp 8] ([p1] : List Int) sl37 ze3 rfl rfl rfl rfl ⟨od rfl, trivial⟩) ?_
  refine cg (bd72_0 (od rfl)) ?_
  refine cg (sp_call en29 (f29_ok e_2) ⟨od rfl, odnil (α := Int), od rfl, trivial⟩) ?_
  refine cg (sp_assign (od rfl)) ?_
  refine sn fun a w hS => ?_
  refine et ?_
  refine ws ?_
  refine st_reg mixed (by kernel_rfl) hS ?_
  refine mv rfl ?_
  refine cg (sp_neq (od rfl) (odi)) ?_
  refine sn fun a w hS => ?_
  refine et ?_
  refine st_cond hS rfl (fun hb => ?_) (fun hb => ?_)
  · have h := ite_t hb h
    refine ws ?_
    refine st_reg mixed (by kernel_rfl) hS ?_
    refine mv rfl ?_
    refine cg (sp_assign (odnil (α := List (Vector Int 2)))) ?_
    refine cg (sp_assign (od rfl)) ?_
    refine sn fun a w hS => ?_
    refine et ?_
    refine wp_ret ?_
    refine exit_thenR ?_
    cases h
    exact st_ret hS (run_results2 Tryz.results13 a w) (⟨_, rfl, hS.get rfl, hS.get rfl, trivial⟩)
  have h := ite_f hb h
  refine wp_skip ?_
  refine et ?_
  refine ws ?_
  obtain ⟨v_3, e_4, h⟩ := bind_some h
  refine st_reg mixed (by kernel_rfl) hS ?_
  refine cg (sp_load ty33 (od rfl)) ?_
  refine mv rfl ?_
  refine cg (sp_call en35 (f35_ok e_4) ⟨od rfl, od rfl, trivial⟩) ?_
  refine cg (sp_assign (od rfl)) ?_
  refine cg (sp_assign (odi)) ?_
  refine sn fun a w hS => ?_
  refine et ?_
  refine wp_ret ?_
  cases h
  exact st_ret hS (run_results2 Tryz.results13 a w) (⟨_, rfl, hS.get rfl, hS.get rfl, trivial⟩)

theorem f62_ok {p0 : Int} {c0 : S_api_Market} {c1 : Int} {r : Bool} (h : M.f62 p0 c0 c1 = some r) : CallOK Tryz.prog 62 [isV p0, isA c0, isA c1] (isV r) := by
  unfold M.f62 at h
  refine callS_of Tryz.func62 rfl Tryz.ntmps62 rfl fun F0 w0 a hS => ?_
  refine ws ?_
  refine st_reg mixed (by kernel_rfl) hS ?_
  refine cg (sp_assign (odb)) ?_
  refine sn fun a w hS => ?_
  refine et ?_
  refine ws ?_
  obtain ⟨v_1, e_2, h⟩ := bind_some h
  refine st_reg mixed (by kernel_rfl) hS ?_
  refine cg (sp_load ty33 (od rfl)) ?_
  refine mv rfl ?_
  refine cg (sp_call en30 (f30_ok e_2) ⟨od rfl, od rfl, trivial⟩) ?_
  refine cg (sp_assign (od rfl)) ?_
  refine sn fun a w hS => ?_
  refine et ?_
  refine ws ?_
  refine ws ?_
  refine st_reg mixed (by kernel_rfl) hS ?_
  refine cg (sp_fieldAddr fd33_0 (od rfl)) ?_
  refine cg (sp_load ty3 (od rfl)) ?_
  refine cg (sp_move (odi)) ?_
  refine sn fun a w hS => ?_
  refine et ?_
  refine wp_block ?_
  obtain ⟨o_6, e_7, hr_8⟩ := bind_some h
  refine c_loop (fun K a w => ∃ k i_3 s_5, K = k + 1 ∧ ForI _ _ _ o_6 k i_3 s_5 ∧ St 32 F0 [] [(1, isA (α := S_api_Market) c0), (2, isA (α := Int) c1), (5, isV (α := List (List Int)) v_1), (12, isV (α := Int) c0.1), (13, isV (α := Int) i_3)] w0 a w) ?_ ?_ ⟨_, _, _, rfl, for_init e_7, hS.weak ⟨od rfl, od rfl, od rfl, od rfl, od rfl, trivial⟩⟩
  · rintro a w ⟨_, _, _, hk, _⟩; cases hk
  rintro K a w ⟨k_6, i_3, s_5, hk, hF_6, hS⟩
  obtain rfl := Nat.succ.inj hk
  refine ws ?_
  refine st_reg mixed (by kernel_rfl) hS ?_
  refine cg (sp_lss (od rfl) (od rfl)) ?_
  refine sn fun a w hS => ?_
  refine et ?_
  refine ws ?_
  refine st_cond hS rfl (fun hb => ?_) (fun hb => ?_)
  · refine wp_skip ?_
    refine et ?_
    obtain ⟨k_6, o, rfl, h, hN_6, hL_6, hw_6⟩ := for_more hF_6 hb
    refine ws ?_
    refine wp_block ?_
    refine ws ?_
    refine st_reg mixed (by kernel_rfl) hS ?_
    refine mv rfl ?_
    refine cg (sp_assign (od rfl)) ?_
    refine sn fun a w hS => ?_
    refine et ?_
    refine ws ?_
    refine st_reg mixed (by kernel_rfl) hS ?_
    refine cg (sp_fieldAddr fd33_0 (od rfl)) ?_
    refine cg (sp_load ty3 (od rfl)) ?_
    refine cg (sp_move (odi)) ?_
    refine sn fun a w hS => ?_
    refine et ?_
    refine wp_block ?_
    obtain ⟨o_12, e_13, hr_14⟩ := bind_some h
    refine c_loop (fun K a w => ∃ k i_9 s_11, K = k + 1 ∧ ForI _ _ _ o_12 k i_9 s_11 ∧ St 32 F0 [] [(1, isA (α := S_api_Market) c0), (2, isA (α := Int) c1), (5, isV (α := List (List Int)) v_1), (6, isV (α := Int) i_3), (12, isV (α := Int) c0.1), (13, isV (α := Int) i_3), (17, isV (α := Int) c0.1), (18, isV (α := Int) i_9)] w0 a w) ?_ ?_ ⟨_, _, _, rfl, for_init e_13, hS.weak ⟨od rfl, od rfl, od rfl, od rfl, od rfl, od rfl, od rfl, od rfl, trivial⟩⟩
    · rintro a w ⟨_, _, _, hk, _⟩; cases hk
    rintro K a w ⟨k_12, i_9, s_11, hk, hF_12, hS⟩
    obtain rfl := Nat.succ.inj hk
    refine ws ?_
    refine st_reg mixed (by kernel_rfl) hS ?_
    refine cg (sp_lss (od rfl) (od rfl)) ?_
    refine sn fun a w hS => ?_
    refine et ?_
    refine ws ?_
    refine st_cond hS rfl (fun hb => ?_) (fun hb => ?_)
    · refine wp_skip ?_
      refine et ?_
      obtain ⟨k_12, o, rfl, h, hN_12, hL_12, hw_12⟩ := for_more hF_12 hb
      refine ws ?_
      refine wp_block ?_
      refine ws ?_
      refine st_reg mixed (by kernel_rfl) hS ?_
      refine mv rfl ?_
      refine cg (sp_assign (od rfl)) ?_
      refine sn fun a w hS => ?_
      refine et ?_
      refine ws ?_
      obtain ⟨v_15, e_16, h⟩ := bind_some h
      obtain ⟨v_17, e_18, h⟩ := bind_some h
      refine st_reg mixed (by kernel_rfl) hS ?_
      refine mv rfl ?_
      refine mv rfl ?_
      refine cg (sp_indexAddr sl74 (od rfl) (od rfl) e_16) ?_
      refine cg (sp_load ty37 (od rfl)) ?_
      refine mv rfl ?_
      refine cg (sp_indexAddr sl37 (od rfl) (od rfl) e_18) ?_
      refine cg (sp_load ty3 (od rfl)) ?_
      refine cg (sp_load ty3 (od rfl)) ?_
      refine cg (sp_gtr (od rfl) (od rfl)) ?_
      refine sn fun a w hS => ?_
      refine et ?_
      refine st_cond hS rfl (fun hb => ?_) (fun hb => ?_)
      · have h := ite_t hb h
        refine ws ?_
        refine st_reg mixed (by kernel_rfl) hS ?_
        refine cg (sp_assign (odb)) ?_
        refine sn fun a w hS => ?_
        refine et ?_
        refine wp_ret ?_
        refine exit_blockR ?_
        refine exit_thenR ?_
        cases h
        obtain rfl := hL_12 _ rfl
        have h := (elim_leave hr_14)
        refine exit_thenR ?_
        refine exit_blockR ?_
        refine exit_blockR ?_
        refine exit_thenR ?_
        cases h
        obtain rfl := hL_6 _ rfl
        have h := (elim_leave hr_8)
        refine exit_thenR ?_
        refine exit_blockR ?_
        refine exit_thenR ?_
        cases h
        exact st_ret hS (run_results1 Tryz.results62 a w) (hS.get rfl)
      have h := ite_f hb h
      refine wp_skip ?_
      refine exit_block ?_
      refine et ?_
      refine st_reg mixed (by kernel_rfl) hS ?_
      refine cg (sp_add (od rfl) (odi)) ?_
      refine mv rfl ?_
      refine sn fun a w hS => ?_
      cases h
      exact ⟨k_12, _, _, rfl, hN_12 _ rfl, hS.weak ⟨od rfl, od rfl, od rfl, od rfl, od rfl, od rfl, od rfl, od (congrArg (fun z => some (isV (α := Int) z)) hw_12), trivial⟩⟩
    refine wp_exit ?_
    obtain rfl := for_done hF_12 hb
    have h := elim_again hr_14
    refine exit_thenE ?_
    refine exit_thenE ?_
    refine exit_here ?_
    refine exit_block ?_
    refine et ?_
    refine st_reg mixed (by kernel_rfl) hS ?_
    refine cg (sp_add (od rfl) (odi)) ?_
    refine mv rfl ?_
    refine sn fun a w hS => ?_
    cases h
    exact ⟨k_6, _, _, rfl, hN_6 _ rfl, hS.weak ⟨od rfl, od rfl, od rfl, od rfl, od (congrArg (fun z => some (isV (α := Int) z)) hw_6), trivial⟩⟩
  refine wp_exit ?_
  obtain rfl := for_done hF_6 hb
  have h := elim_again hr_8
  refine exit_thenE ?_
  refine exit_thenE ?_
  refine exit_here ?_
  refine et ?_
  refine ws ?_
  refine st_reg mixed (by kernel_rfl) hS ?_
  refine cg (sp_assign (odb)) ?_
  refine sn fun a w hS => ?_
  refine et ?_
  refine wp_ret ?_
  cases h
  exact st_ret hS (run_results1 Tryz.results62 a w) (hS.get rfl)

theorem f36_ok {p0 : S_api_Market} {p1 : Int} {r : S_keeper_want} (h : M.f36 p0 p1 = some r) : CallOK Tryz.prog 36 [isV p0, isV p1] (isV r) := by
  unfold M.f36 at h
  refine callS_of Tryz.func36 rfl Tryz.ntmps36 rfl fun F0 w0 a hS => ?_
  refine ws ?_
  refine l_start ?_
  refine s_c hS (sg (sp_box (od rfl))) rfl fun a w hS hM => ?_
  refine s_c hS (sg (sp_box (od rfl))) rfl fun a w hS hM => ?_
  refine s_alloc zi82 hS rfl fun a w b_1 hS hM => ?_
  have hS : St _ F0 [Item.box (α := S_keeper_want) 82 b_1 (((fun _ => none), ()) : S_keeper_want)] _ w0 _ _ := hS
  refine l_end ?_
  refine et ?_
  refine ws ?_
  refine l_start ?_
  refine s_c hS (sg (mk_fn80 (f := (fun x0 => M.f62 x0 p0 p1)) (κs := [isA (α := S_api_Market) p0, isA (α := Int) p1]) ⟨fun _ _ _ _ h => h, fun _ _ _ _ h => h, trivial⟩ en62 ⟨od rfl, od rfl, trivial⟩ (fun _ _ h => f62_ok h))) rfl fun a w hS hM => ?_
  refine s_c hS (sg (bd82_0 (od rfl))) rfl fun a w hS hM => ?_
  refine s_storeB (k := 0) (Δ := [(4, Pr.ptr b_1), (6, isV (α := S_keeper_want) ((((fun x0 => M.f62 x0 p0 p1) : (Int → Option Bool)), ()) : S_keeper_want))]) ty82 hS rfl ⟨od rfl, od rfl, trivial⟩ ⟨fun _ _ _ _ h => h, fun _ _ _ _ h => h, trivial⟩ rfl (od rfl) fun w hS hM => ?_
  have hS : St _ F0 [Item.box (α := S_keeper_want) 82 b_1 ((((fun x0 => M.f62 x0 p0 p1) : (Int → Option Bool)), ()) : S_keeper_want)] _ w0 _ _ := hS
  have hS := st_freezeB 0 4 hS rfl rfl
  refine l_end ?_
  refine et ?_
  refine wp_ret ?_
  cases h
  obtain ⟨v, hr, hv⟩ := run_resC1 Tryz.results36 ty82 (hS.get rfl)
  exact st_ret hS hr hv

theorem f14_ok {p0 : S_api_Market} {p1 : Int} {r : (List Int) × Bool × Int} (h : M.f14 p0 p1 = some r) : CallOK Tryz.prog 14 [isV p0, isV p1] (isTup [isV r.1, isV r.2.1, isV r.2.2]) := by
  unfold M.f14 at h
  refine callS_of Tryz.func14 rfl Tryz.ntmps14 rfl fun F0 w0 a hS => ?_
  refine ws ?_
  refine st_reg mixed (by kernel_rfl) hS ?_
  refine cg (sp_box (od rfl)) ?_
  refine cg (sp_assign (odnil (α := Int))) ?_
  refine cg (sp_assign (odb)) ?_
  refine cg (sp_assign (odi)) ?_
  refine sn fun a w hS => ?_
  refine et ?_
  refine ws ?_
  refine ws ?_
  obtain ⟨v_1, e_2, h⟩ := bind_some h
  refine st_reg mixed (by kernel_rfl) hS ?_
  refine cg (sp_load ty33 (od rfl)) ?_
  refine mv rfl ?_
  refine cg (sp_buildSlice [.tmp 9] ([p1] : List Int) sl37 ze3 rfl rfl rfl rfl ⟨od rfl, trivial⟩) ?_
  refine cg (bd72_1 (od rfl)) ?_
  refine cg (sp_call en29 (f29_ok e_2) ⟨od rfl, odnil (α := Int), od rfl, trivial⟩) ?_
  refine cg (sp_assign (od rfl)) ?_
  refine sn fun a w hS => ?_
  refine et ?_
  refine ws ?_
  refine st_reg mixed (by kernel_rfl) hS ?_
  refine mv rfl ?_
  refine cg (sp_neq (od rfl) (odi)) ?_
  refine sn fun a w hS => ?_
  refine et ?_
  refine st_cond hS rfl (fun hb => ?_) (fun hb => ?_)
  · have h := ite_t hb h
    refine ws ?_
    refine st_reg mixed (by kernel_rfl) hS ?_
    refine mv rfl ?_
    refine cg (sp_assign (odnil (α := Int))) ?_
    refine cg (sp_assign (odb)) ?_
    refine cg (sp_assign (od rfl)) ?_
    refine sn fun a w hS => ?_
    refine et ?_
    refine wp_ret ?_
    refine exit_thenR ?_
    cases h
    exact st_ret hS (run_results3 Tryz.results14 a w) (⟨_, rfl, hS.get rfl, hS.get rfl, hS.get rfl, trivial⟩)
  have h := ite_f hb h
  refine wp_skip ?_
  refine et ?_
  refine ws ?_
  obtain ⟨v_3, e_4, h⟩ := bind_some h
  obtain ⟨v_5, e_6, h⟩ := bind_some h
  obtain ⟨v_7, e_8, h⟩ := bind_some h
  refine st_reg mixed (by kernel_rfl) hS ?_
  refine cg (sp_load ty33 (od rfl)) ?_
  refine mv rfl ?_
  refine cg (sp_call en36 (f36_ok e_4) ⟨od rfl, od rfl, trivial⟩) ?_
  refine cg (sp_load ty33 (od rfl)) ?_
  refine cg (sp_call en33 (f33_ok e_6) ⟨od rfl, od rfl, trivial⟩) ?_
  refine cg (sp_call en34 (f34_ok e_8) ⟨od rfl, trivial⟩) ?_
  refine cg (sp_extract (od rfl) rfl) ?_
  refine cg (sp_extract (od rfl) rfl) ?_
  refine cg (sp_extract (od rfl) rfl) ?_
  refine cg (sp_assign (od rfl)) ?_
  refine cg (sp_assign (od rfl)) ?_
  refine cg (sp_assign (od rfl)) ?_
  refine sn fun a w hS => ?_
  refine et ?_
  refine wp_ret ?_
  cases h
  exact st_ret hS (run_results3 Tryz.results14 a w) (⟨_, rfl, hS.get rfl, hS.get rfl, hS.get rfl, trivial⟩)

theorem f37_ok {p0 : List S_api_Offer} {p1 : List S_api_Span} {r : Bool} (h : M.f37 p0 p1 = some r) : CallOK Tryz.prog 37 [isV p0, isV p1] (isV r) := by
  unfold M.f37 at h
  refine callS_of Tryz.func37 rfl Tryz.ntmps37 rfl fun F0 w0 a hS => ?_
  refine ws ?_
  refine st_reg mixed (by kernel_rfl) hS ?_
  refine cg (sp_assign (odb)) ?_
  refine sn fun a w hS => ?_
  refine et ?_
  refine ws ?_
  refine ws ?_
  refine st_reg mixed (by kernel_rfl) hS ?_
  refine mv rfl ?_
  refine cg (sp_len Tryz.underlying31 (od rfl)) ?_
  refine mv rfl ?_
  refine cg (sp_len Tryz.underlying49 (od rfl)) ?_
  refine cg (sp_neq (od rfl) (od rfl)) ?_
  refine sn fun a w hS => ?_
  refine et ?_
  refine st_cond hS rfl (fun hb => ?_) (fun hb => ?_)
  · have h := ite_t hb h
    refine ws ?_
    refine st_reg mixed (by kernel_rfl) hS ?_
    refine cg (sp_assign (odb)) ?_
    refine sn fun a w hS => ?_
    refine et ?_
    refine wp_ret ?_
    refine exit_thenR ?_
    cases h
    exact st_ret hS (run_results1 Tryz.results37 a w) (hS.get rfl)
  have h := ite_f hb h
  refine wp_skip ?_
  refine et ?_
  refine ws ?_
  refine ws ?_
  refine st_reg mixed (by kernel_rfl) hS ?_
  refine mv rfl ?_
  refine cg (sp_len Tryz.underlying49 (od rfl)) ?_
  refine cg (sp_move (odi)) ?_
  refine sn fun a w hS => ?_
  refine et ?_
  refine wp_block ?_
  obtain ⟨o_4, e_5, hr_6⟩ := bind_some h
  refine c_loop (fun K a w => ∃ k i_1 s_3, K = k + 1 ∧ ForI _ _ _ o_4 k i_1 s_3 ∧ St 41 F0 [] [(0, isV (α := List S_api_Offer) p0), (12, isV (α := List S_api_Span) p1), (13, isV (α := Int) (p1.length : Int)), (14, isV (α := Int) i_1)] w0 a w) ?_ ?_ ⟨_, _, _, rfl, for_init e_5, hS.weak ⟨od rfl, od rfl, od rfl, od rfl, trivial⟩⟩
  · rintro a w ⟨_, _, _, hk, _⟩; cases hk
  rintro K a w ⟨k_4, i_1, s_3, hk, hF_4, hS⟩
  obtain rfl := Nat.succ.inj hk
  refine ws ?_
  refine st_reg mixed (by kernel_rfl) hS ?_
  refine cg (sp_lss (od rfl) (od rfl)) ?_
  refine sn fun a w hS => ?_
  refine et ?_
  refine ws ?_
  refine st_cond hS rfl (fun hb => ?_) (fun hb => ?_)
  · refine wp_skip ?_
    refine et ?_
    obtain ⟨k_4, o, rfl, h, hN_4, hL_4, hw_4⟩ := for_more hF_4 hb
    refine ws ?_
    refine wp_block ?_
    refine ws ?_
    obtain ⟨v_7, e_8, h⟩ := bind_some h
    refine l_start ?_
    refine s_c hS (sg (sp_move (od rfl))) rfl fun a w hS hM => ?_
    refine s_c hS (sg (sp_indexAddr sl49 (od rfl) (od rfl) e_8)) rfl fun a w hS hM => ?_
    refine s_c hS (sg (sp_load ty46 (od rfl))) rfl fun a w hS hM => ?_
    refine s_alloc zi46 hS rfl fun a w b_9 hS hM => ?_
    have hS : St _ F0 [Item.box (α := S_api_Span) 46 b_9 ((0, 0) : S_api_Span)] _ w0 _ _ := hS
    refine s_c hS (sg (sp_assign (od rfl))) rfl fun a w hS hM => ?_
    refine s_storeB (k := 0) (Δ := [(0, isV (α := List S_api_Offer) p0), (5, isV (α := Int) i_1), (6, Pr.ptr b_9), (12, isV (α := List S_api_Span) p1), (13, isV (α := Int) (p1.length : Int)), (14, isV (α := Int) i_1), (18, isV (α := S_api_Span) v_7)]) ty46 hS rfl ⟨od rfl, od rfl, od rfl, od rfl, od rfl, od rfl, od rfl, trivial⟩ ⟨fun _ _ _ _ h => h, fun _ _ _ _ h => h, fun _ _ _ _ h => h, fun _ _ _ _ h => h, fun _ _ _ _ h => h, fun _ _ _ _ h => h, fun _ _ _ _ h => h, trivial⟩ rfl (od rfl) fun w hS hM => ?_
    have hS : St _ F0 [Item.box (α := S_api_Span) 46 b_9 v_7] _ w0 _ _ := hS
    have hS := st_freezeB 0 6 hS rfl rfl
    refine l_end ?_
    refine et ?_
    refine ws ?_
    obtain ⟨v_10, e_11, h⟩ := bind_some h
    refine st_reg mixed (by kernel_rfl) hS ?_
    refine cg (sp_fieldAddr fd46_0 (od rfl)) ?_
    refine cg (sp_load ty3 (od rfl)) ?_
    refine cg (sp_lss (od rfl) (odi)) ?_
    refine mv rfl ?_
    refine sc (sgF rfl fun hG => sp_fieldAddr fd46_0 (od rfl)) ?_
    refine sc (sgF rfl fun hG => sp_load ty3 (odw rfl hG)) ?_
    refine sc (sgF rfl fun hG => sp_gtr (odw rfl hG) (odi)) ?_
    refine cg (sp_pickOr (od rfl) fun hg => odw rfl (not_t hg)) ?_
    refine mv rfl ?_
    refine sc (sgF rfl fun hG => sp_fieldAddr fd46_1 (od rfl)) ?_
    refine sc (sgF rfl fun hG => sp_load ty3 (odw rfl hG)) ?_
    refine sc (sgF rfl fun hG => sp_fieldAddr fd46_0 (od rfl)) ?_
    refine sc (sgF rfl fun hG => sp_load ty3 (odw rfl hG)) ?_
    refine sc (sgF rfl fun hG => sp_move (od rfl)) ?_
    refine sc (sgF rfl fun hG => sp_move (od rfl)) ?_
    refine sc (sgF rfl fun hG => sp_indexAddr sl31 (odw rfl hG) (odw rfl hG) (guard_some e_11 hG)) ?_
    refine sc (sgF rfl fun hG => sp_fieldAddr fd23_3 (odw rfl hG)) ?_
    refine sc (sgF rfl fun hG => sp_load ty3 (odw rfl hG)) ?_
    refine sc (sgF rfl fun hG => sp_add (odw rfl hG) (odw rfl hG)) ?_
    refine sc (sgF rfl fun hG => sp_neq (odw rfl hG) (odw rfl hG)) ?_
    refine cg (sp_pickOr (od rfl) fun hg => odw rfl (not_t hg)) ?_
    refine sn fun a w hS => ?_
    refine et ?_
    refine st_cond hS rfl (fun hb => ?_) (fun hb => ?_)
    · have h := ite_t hb h
      refine ws ?_
      refine st_reg mixed (by kernel_rfl) hS ?_
      refine cg (sp_assign (odb)) ?_
      refine sn fun a w hS => ?_
      refine et ?_
      refine wp_ret ?_
      refine exit_blockR ?_
      refine exit_thenR ?_
      cases h
      obtain rfl := hL_4 _ rfl
      have h := (elim_leave hr_6)
      refine exit_thenR ?_
      refine exit_blockR ?_
      refine exit_thenR ?_
      cases h
      exact st_ret hS (run_results1 Tryz.results37 a w) (hS.get rfl)
    have h := ite_f hb h
    refine wp_skip ?_
    refine exit_block ?_
    refine et ?_
    refine st_reg mixed (by kernel_rfl) hS ?_
    refine cg (sp_add (od rfl) (odi)) ?_
    refine mv rfl ?_
    refine sn fun a w hS => ?_
    cases h
    exact ⟨k_4, _, _, rfl, hN_4 _ rfl, hS.weak ⟨od rfl, od rfl, od rfl, od (congrArg (fun z => some (isV (α := Int) z)) hw_4), trivial⟩⟩
  refine wp_exit ?_
  obtain rfl := for_done hF_4 hb
  have h := elim_again hr_6
  refine exit_thenE ?_
  refine exit_thenE ?_
  refine exit_here ?_
  refine et ?_
  refine ws ?_
  refine st_reg mixed (by kernel_rfl) hS ?_
  refine cg (sp_assign (odb)) ?_
  refine sn fun a w hS => ?_
  refine et ?_
  refine wp_ret ?_
  cases h
  exact st_ret hS (run_results1 Tryz.results37 a w) (hS.get rfl)

theorem f39_ok {p0 : List (List S_api_Offer)} {r : (List S_api_Offer)} (h : M.f39 p0 = some r) : CallOK Tryz.prog 39 [isV p0] (isV r) := by
  unfold M.f39 at h
  refine callS_of Tryz.func39 rfl Tryz.ntmps39 rfl fun F0 w0 a hS => ?_
  refine ws ?_
  refine st_reg mixed (by kernel_rfl) hS ?_
  refine cg (sp_assign (odnil (α := S_api_Offer))) ?_
  refine sn fun a w hS => ?_
  refine et ?_
  refine ws ?_
  refine st_reg mixed (by kernel_rfl) hS ?_
  refine cg (sp_assign (odi)) ?_
  refine sn fun a w hS => ?_
  refine et ?_
  refine ws ?_
  refine ws ?_
  refine st_reg mixed (by kernel_rfl) hS ?_
  refine mv rfl ?_
  refine cg (sp_len Tryz.underlying110 (od rfl)) ?_
  refine cg (sp_move (odi)) ?_
  refine sn fun a w hS => ?_
  refine et ?_
  refine wp_block ?_
  obtain ⟨o_4, e_5, hr_6⟩ := bind_some h
  refine c_loop (fun K a w => ∃ k i_1 s_3, K = k + 1 ∧ ForT _ _ _ o_4 k i_1 s_3 ∧ St 36 F0 [] [(0, isV (α := List (List S_api_Offer)) p0), (3, isV (α := Int) s_3), (9, isV (α := List (List S_api_Offer)) p0), (10, isV (α := Int) (p0.length : Int)), (11, isV (α := Int) i_1)] w0 a w) ?_ ?_ ⟨_, _, _, rfl, fors_init e_5, hS.weak ⟨od rfl, od rfl, od rfl, od rfl, od rfl, trivial⟩⟩
  · rintro a w ⟨_, _, _, hk, _⟩; cases hk
  rintro K a w ⟨k_4, i_1, s_3, hk, hF_4, hS⟩
  obtain rfl := Nat.succ.inj hk
  refine ws ?_
  refine st_reg mixed (by kernel_rfl) hS ?_
  refine cg (sp_lss (od rfl) (od rfl)) ?_
  refine sn fun a w hS => ?_
  refine et ?_
  refine ws ?_
  refine st_cond hS rfl (fun hb => ?_) (fun hb => ?_)
  · refine wp_skip ?_
    refine et ?_
    obtain ⟨k_4, s', rfl, h, hF_4, hw_4⟩ := fors_more hF_4 hb
    refine ws ?_
    refine wp_block ?_
    refine ws ?_
    obtain ⟨v_7, e_8, h⟩ := bind_some h
    refine st_reg mixed (by kernel_rfl) hS ?_
    refine cg (sp_indexAddr sl110 (od rfl) (od rfl) e_8) ?_
    refine cg (sp_load ty31 (od rfl)) ?_
    refine cg (sp_assign (od rfl)) ?_
    refine sn fun a w hS => ?_
    refine et ?_
    refine ws ?_
    refine st_reg mixed (by kernel_rfl) hS ?_
    refine mv rfl ?_
    refine mv rfl ?_
    refine cg (sp_len Tryz.underlying31 (od rfl)) ?_
    refine cg (sp_add (od rfl) (od rfl)) ?_
    refine cg (sp_assign (od rfl)) ?_
    refine sn fun a w hS => ?_
    refine et ?_
    refine ws ?_
    refine st_reg mixed (by kernel_rfl) hS ?_
    refine mv rfl ?_
    refine cg (sp_lss (od rfl) (odi)) ?_
    refine sn fun a w hS => ?_
    refine et ?_
    obtain ⟨_, hj_9, h⟩ := bind_some h
    refine wp_mono (Q := fun e a w => e = Exit.normal ∧ St 36 F0 [] [(0, isV (α := List (List S_api_Offer)) p0), (3, isV (α := Int) (wr (s_3 + (v_7.length : Int)))), (9, isV (α := List (List S_api_Offer)) p0), (10, isV (α := Int) (p0.length : Int)), (11, isV (α := Int) i_1)] w0 a w) ?_ ?_
    · refine st_cond hS rfl (fun hb => ?_) (fun hb => ?_)
      · have h := ite_t hb hj_9
        cases h
      have h := ite_f hb hj_9
      refine wp_skip ?_
      cases h
      exact ⟨rfl, hS.weak ⟨od rfl, od rfl, od rfl, od rfl, od rfl, trivial⟩⟩
    rintro e a w ⟨rfl, hS⟩
    refine exit_block ?_
    refine et ?_
    refine st_reg mixed (by kernel_rfl) hS ?_
    refine cg (sp_add (od rfl) (odi)) ?_
    refine mv rfl ?_
    refine sn fun a w hS => ?_
    cases h
    exact ⟨k_4, _, _, rfl, hF_4, hS.weak ⟨od rfl, od rfl, od rfl, od rfl, od (congrArg (fun z => some (isV (α := Int) z)) hw_4), trivial⟩⟩
  refine wp_exit ?_
  obtain rfl := (fors_done hF_4 hb).symm
  have h := hr_6
  refine exit_thenE ?_
  refine exit_thenE ?_
  refine exit_here ?_
  refine et ?_
  refine ws ?_
  obtain ⟨m_10, e_11, h⟩ := bind_some h
  refine l_start ?_
  refine s_c hS (sg (sp_move (od rfl))) rfl fun a w hS hM => ?_
  refine s_callI en63 (f63_ok e_11) hS ⟨odc fun _ => rfl, od rfl, trivial⟩ rfl fun a w u_12 x_13 hS hM => ?_
  have hS : St _ F0 [Item.sl (α := S_api_Offer) 23 u_12 ([] : List S_api_Offer)] _ w0 _ _ := hS
  refine s_c hS (sg (sp_assign (od rfl))) rfl fun a w hS hM => ?_
  refine l_end ?_
  refine et ?_
  refine ws ?_
  refine ws ?_
  refine st_reg mixed (by kernel_rfl) hS ?_
  refine mv rfl ?_
  refine cg (sp_len Tryz.underlying110 (od rfl)) ?_
  refine cg (sp_move (odi)) ?_
  refine sn fun a w hS => ?_
  refine et ?_
  refine wp_block ?_
  obtain ⟨o_17, e_18, hr_19⟩ := bind_some h
  refine c_loop (fun K a w => ∃ k i_14 s_16, ∃ u_20 : Value, K = k + 1 ∧ ForT _ _ _ o_17 k i_14 s_16 ∧ St 36 F0 [Item.sl (α := S_api_Offer) 23 u_20 s_16] [(6, Pr.is u_20), (25, isV (α := List (List S_api_Offer)) p0), (26, isV (α := Int) (p0.length : Int)), (27, isV (α := Int) i_14)] w0 a w) ?_ ?_ ⟨_, _, _, u_12, rfl, fors_init e_18, hS.weak ⟨od rfl, od rfl, od rfl, od rfl, trivial⟩⟩
  · rintro a w ⟨_, _, _, _, hk, _⟩; cases hk
  rintro K a w ⟨k_17, i_14, s_16, u_20, hk, hF_17, hS⟩
  obtain rfl := Nat.succ.inj hk
  refine ws ?_
  refine st_reg mixed (by kernel_rfl) hS ?_
  refine cg (sp_lss (od rfl) (od rfl)) ?_
  refine sn fun a w hS => ?_
  refine et ?_
  refine ws ?_
  refine st_cond hS rfl (fun hb => ?_) (fun hb => ?_)
  · refine wp_skip ?_
    refine et ?_
    obtain ⟨k_17, s', rfl, h, hF_17, hw_17⟩ := fors_more hF_17 hb
    refine ws ?_
    refine wp_block ?_
    refine ws ?_
    obtain ⟨v_21, e_22, h⟩ := bind_some h
    refine st_reg mixed (by kernel_rfl) hS ?_
    refine cg (sp_indexAddr sl110 (od rfl) (od rfl) e_22) ?_
    refine cg (sp_load ty31 (od rfl)) ?_
    refine cg (sp_assign (od rfl)) ?_
    refine sn fun a w hS => ?_
    refine et ?_
    obtain ⟨z_23, e_24, h⟩ := bind_some h
    refine l_start ?_
    refine s_c hS (sg (sp_move (od rfl))) rfl fun a w hS hM => ?_
    refine s_c hS (sg (sp_move (od rfl))) rfl fun a w hS hM => ?_
    refine s_append (k := 0) (Δ := [(25, isV (α := List (List S_api_Offer)) p0), (26, isV (α := Int) (p0.length : Int)), (27, isV (α := Int) i_14), (31, Pr.is u_20), (32, isV (α := List S_api_Offer) v_21)]) sl31 ze23 hS rfl ⟨od rfl, od rfl, od rfl, od rfl, od rfl, trivial⟩ ⟨fun _ _ _ _ h => h, fun _ _ _ _ h => h, fun _ _ _ _ h => h, fun _ _ _ _ h => h, fun _ _ _ _ h => h, trivial⟩ (od rfl) (od rfl) e_24 rfl fun a w u_25 hS hM => ?_
    have hS : St _ F0 [Item.sl (α := S_api_Offer) 23 u_25 z_23] _ w0 _ _ := hS
    refine s_c hS (sg (sp_assign (od rfl))) rfl fun a w hS hM => ?_
    refine l_end ?_
    refine exit_block ?_
    refine et ?_
    refine st_reg mixed (by kernel_rfl) hS ?_
    refine cg (sp_add (od rfl) (odi)) ?_
    refine mv rfl ?_
    refine sn fun a w hS => ?_
    cases h
    exact ⟨k_17, _, _, u_25, rfl, hF_17, hS.weak ⟨od rfl, od rfl, od rfl, od (congrArg (fun z => some (isV (α := Int) z)) hw_17), trivial⟩⟩
  refine wp_exit ?_
  obtain rfl := (fors_done hF_17 hb).symm
  have h := hr_19
  refine exit_thenE ?_
  refine exit_thenE ?_
  refine exit_here ?_
  refine et ?_
  refine ws ?_
  refine st_reg mixed (by kernel_rfl) hS ?_
  refine mv rfl ?_
  refine cg (sp_assign (od rfl)) ?_
  refine sn fun a w hS => ?_
  refine et ?_
  refine wp_ret ?_
  have hS0 := hS
  have hS := st_freeze 0 2 hS rfl rfl
  have hS := st_also (t := 2) (q := 6) hS0 hS rfl rfl rfl
  have hS := st_also (t := 2) (q := 35) hS0 hS rfl rfl rfl
  cases h
  exact st_ret hS (run_results1 Tryz.results39 a w) (hS.get rfl)

theorem f40_ok {p0 : List (List S_api_Span)} {r : (List S_api_Span)} (h : M.f40 p0 = some r) : CallOK Tryz.prog 40 [isV p0] (isV r) := by
  unfold M.f40 at h
  refine callS_of Tryz.func40 rfl Tryz.ntmps40 rfl fun F0 w0 a hS => ?_
  refine ws ?_
  refine st_reg mixed (by kernel_rfl) hS ?_
  refine cg (sp_assign (odnil (α := S_api_Span))) ?_
  refine sn fun a w hS => ?_
  refine et ?_
  refine ws ?_
  refine st_reg mixed (by kernel_rfl) hS ?_
  refine cg (sp_assign (odi)) ?_
  refine sn fun a w hS => ?_
  refine et ?_
  refine ws ?_
  refine ws ?_
  refine st_reg mixed (by kernel_rfl) hS ?_
  refine mv rfl ?_
  refine cg (sp_len Tryz.underlying112 (od rfl)) ?_
  refine cg (sp_move (odi)) ?_
  refine sn fun a w hS => ?_
  refine et ?_
  refine wp_block ?_
  obtain ⟨o_4, e_5, hr_6⟩ := bind_some h
  refine c_loop (fun K a w => ∃ k i_1 s_3, K = k + 1 ∧ ForT _ _ _ o_4 k i_1 s_3 ∧ St 36 F0 [] [(0, isV (α := List (List S_api_Span)) p0), (3, isV (α := Int) s_3), (9, isV (α := List (List S_api_Span)) p0), (10, isV (α := Int) (p0.length : Int)), (11, isV (α := Int) i_1)] w0 a w) ?_ ?_ ⟨_, _, _, rfl, fors_init e_5, hS.weak ⟨od rfl, od rfl, od rfl, od rfl, od rfl, trivial⟩⟩
  · rintro a w ⟨_, _, _, hk, _⟩; cases hk
  rintro K a w ⟨k_4, i_1, s_3, hk, hF_4, hS⟩
  obtain rfl := Nat.succ.inj hk
  refine ws ?_
  refine st_reg mixed (by kernel_rfl) hS ?_
  refine cg (sp_lss (od rfl) (od rfl)) ?_
  refine sn fun a w hS => ?_
  refine et ?_
  refine ws ?_
  refine st_cond hS rfl (fun hb => ?_) (fun hb => ?_)
  · refine wp_skip ?_
    refine et ?_
    obtain ⟨k_4, s', rfl, h, hF_4, hw_4⟩ := fors_more hF_4 hb
    refine ws ?_
    refine wp_block ?_
    refine ws ?_
    obtain ⟨v_7, e_8, h⟩ := bind_some h
    refine st_reg mixed (by kernel_rfl) hS ?_
    refine cg (sp_indexAddr sl112 (od rfl) (od rfl) e_8) ?_
    refine cg (sp_load ty49 (od rfl)) ?_
    refine cg (sp_assign (od rfl)) ?_
    refine sn fun a w hS => ?_
    refine et ?_
    refine ws ?_
    refine st_reg mixed (by kernel_rfl) hS ?_
    refine mv rfl ?_
    refine mv rfl ?_
    refine cg (sp_len Tryz.underlying49 (od rfl)) ?_
    refine cg (sp_add (od rfl) (od rfl)) ?_
    refine cg (sp_assign (od rfl)) ?_
    refine sn fun a w hS => ?_
    refine et ?_
    refine ws ?_
    refine st_reg mixed (by kernel_rfl) hS ?_
    refine mv rfl ?_
    refine cg (sp_lss (od rfl) (odi)) ?_
    refine sn fun a w hS => ?_
    refine et ?_
    obtain ⟨_, hj_9, h⟩ := bind_some h
    refine wp_mono (Q := fun e a w => e = Exit.normal ∧ St 36 F0 [] [(0, isV (α := List (List S_api_Span)) p0), (3, isV (α := Int) (wr (s_3 + (v_7.length : Int)))), (9, isV (α := List (List S_api_Span)) p0), (10, isV (α := Int) (p0.length : Int)), (11, isV (α := Int) i_1)] w0 a w) ?_ ?_
    · refine st_cond hS rfl (fun hb => ?_) (fun hb => ?_)
      · have h := ite_t hb hj_9
        cases h
      have h := ite_f hb hj_9
      refine wp_skip ?_
      cases h
      exact ⟨rfl, hS.weak ⟨od rfl, od rfl, od rfl, od rfl, od rfl, trivial⟩⟩
    rintro e a w ⟨rfl, hS⟩
    refine exit_block ?_
    refine et ?_
    refine st_reg mixed (by kernel_rfl) hS ?_
    refine cg (sp_add (od rfl) (odi)) ?_
    refine mv rfl ?_
    refine sn fun a w hS => ?_
    cases h
    exact ⟨k_4, _, _, rfl, hF_4, hS.weak ⟨od rfl, od rfl, od rfl, od rfl, od (congrArg (fun z => some (isV (α := Int) z)) hw_4), trivial⟩⟩
  refine wp_exit ?_
  obtain rfl := (fors_done hF_4 hb).symm
  have h := hr_6
  refine exit_thenE ?_
  refine exit_thenE ?_
  refine exit_here ?_
  refine et ?_
  refine ws ?_
  obtain ⟨m_10, e_11, h⟩ := bind_some h
  refine l_start ?_
  refine s_c hS (sg (sp_move (od rfl))) rfl fun a w hS hM => ?_
  refine s_callI en64 (f64_ok e_11) hS ⟨odc fun _ => rfl, od rfl, trivial⟩ rfl fun a w u_12 x_13 hS hM => ?_
  have hS : St _ F0 [Item.sl (α := S_api_Span) 46 u_12 ([] : List S_api_Span)] _ w0 _ _ := hS
  refine s_c hS (sg (sp_assign (od rfl))) rfl fun a w hS hM => ?_
  refine l_end ?_
  refine et ?_
  refine ws ?_
  refine ws ?_
  refine st_reg mixed (by kernel_rfl) hS ?_
  refine mv rfl ?_
  refine cg (sp_len Tryz.underlying112 (od rfl)) ?_
  refine cg (sp_move (odi)) ?_
  refine sn fun a w hS => ?_
  refine et ?_
  refine wp_block ?_
  obtain ⟨o_17, e_18, hr_19⟩ := bind_some h
  refine c_loop (fun K a w => ∃ k i_14 s_16, ∃ u_20 : Value, K = k + 1 ∧ ForT _ _ _ o_17 k i_14 s_16 ∧ St 36 F0 [Item.sl (α := S_api_Span) 46 u_20 s_16] [(6, Pr.is u_20), (25, isV (α := List (List S_api_Span)) p0), (26, isV (α := Int) (p0.length : Int)), (27, isV (α := Int) i_14)] w0 a w) ?_ ?_ ⟨_, _, _, u_12, rfl, fors_init e_18, hS.weak ⟨od rfl, od rfl, od rfl, od rfl, trivial⟩⟩
  · rintro a w ⟨_, _, _, _, hk, _⟩; cases hk
  rintro K a w ⟨k_17, i_14, s_16, u_20, hk, hF_17, hS⟩
  obtain rfl := Nat.succ.inj hk
  refine ws ?_
  refine st_reg mixed (by kernel_rfl) hS ?_
  refine cg (sp_lss (od rfl) (od rfl)) ?_
  refine sn fun a w hS => ?_
  refine et ?_
  refine ws ?_
  refine st_cond hS rfl (fun hb => ?_) (fun hb => ?_)
  · refine wp_skip ?_
    refine et ?_
    obtain ⟨k_17, s', rfl, h, hF_17, hw_17⟩ := fors_more hF_17 hb
    refine ws ?_
    refine wp_block ?_
    refine ws ?_
    obtain ⟨v_21, e_22, h⟩ := bind_some h
    refine st_reg mixed (by kernel_rfl) hS ?_
    refine cg (sp_indexAddr sl112 (od rfl) (od rfl) e_22) ?_
    refine cg (sp_load ty49 (od rfl)) ?_
    refine cg (sp_assign (od rfl)) ?_
    refine sn fun a w hS => ?_
    refine et ?_
    obtain ⟨z_23, e_24, h⟩ := bind_some h
    refine l_start ?_
    refine s_c hS (sg (sp_move (od rfl))) rfl fun a w hS hM => ?_
    refine s_c hS (sg (sp_move (od rfl))) rfl fun a w hS hM => ?_
    refine s_append (k := 0) (Δ := [(25, isV (α := List (List S_api_Span)) p0), (26, isV (α := Int) (p0.length : Int)), (27, isV (α := Int) i_14), (31, Pr.is u_20), (32, isV (α := List S_api_Span) v_21)]) sl49 ze46 hS rfl ⟨od rfl, od rfl, od rfl, od rfl, od rfl, trivial⟩ ⟨fun _ _ _ _ h => h, fun _ _ _ _ h => h, fun _ _ _ _ h => h, fun _ _ _ _ h => h, fun _ _ _ _ h => h, trivial⟩ (od rfl) (od rfl) e_24 rfl fun a w u_25 hS hM => ?_
    have hS : St _ F0 [Item.sl (α := S_api_Span) 46 u_25 z_23] _ w0 _ _ := hS
    refine s_c hS (sg (sp_assign (od rfl))) rfl fun a w hS hM => ?_
    refine l_end ?_
    refine exit_block ?_
    refine et ?_
    refine st_reg mixed (by kernel_rfl) hS ?_
    refine cg (sp_add (od rfl) (odi)) ?_
    refine mv rfl ?_
    refine sn fun a w hS => ?_
    cases h
    exact ⟨k_17, _, _, u_25, rfl, hF_17, hS.weak ⟨od rfl, od rfl, od rfl, od (congrArg (fun z => some (isV (α := Int) z)) hw_17), trivial⟩⟩
  refine wp_exit ?_
  obtain rfl := (fors_done hF_17 hb).symm
  have h := hr_19
  refine exit_thenE ?_
  refine exit_thenE ?_
  refine exit_here ?_
  refine et ?_
  refine ws ?_
  refine st_reg mixed (by kernel_rfl) hS ?_
  refine mv rfl ?_
  refine cg (sp_assign (od rfl)) ?_
  refine sn fun a w hS => ?_
  refine et ?_
  refine wp_ret ?_
  have hS0 := hS
  have hS := st_freeze 0 2 hS rfl rfl
  have hS := st_also (t := 2) (q := 6) hS0 hS rfl rfl rfl
  have hS := st_also (t := 2) (q := 35) hS0 hS rfl rfl rfl
  cases h
  exact st_ret hS (run_results1 Tryz.results40 a w) (hS.get rfl)

theorem f15_ok {p0 : S_api_Market} {p1 : List Int} {p2 : Int} {p3 : Int} {p4 : List S_api_Span} {p5 : List S_api_Span} {r : S_api_Span × Bool × Int} (h : M.f15 p0 p1 p2 p3 p4 p5 = some r) : CallOK Tryz.prog 15 [isV p0, isV p1, isV p2, isV p3, isV p4, isV p5] (isTup [isV r.1, isV r.2.1, isV r.2.2]) := by
  unfold M.f15 at h
  refine callS_of Tryz.func15 rfl Tryz.ntmps15 rfl fun F0 w0 a hS => ?_
  refine ws ?_
  refine l_start ?_
  refine s_c hS (sg (sp_box (od rfl))) rfl fun a w hS hM => ?_
  refine s_alloc zi46 hS rfl fun a w b_1 hS hM => ?_
  have hS : St _ F0 [Item.box (α := S_api_Span) 46 b_1 ((0, 0) : S_api_Span)] _ w0 _ _ := hS
  refine s_c hS (sg (sp_assign (odb))) rfl fun a w hS hM => ?_
  refine s_c hS (sg (sp_assign (odi))) rfl fun a w hS hM => ?_
  refine l_end ?_
  refine et ?_
  refine ws ?_
  refine ws ?_
  obtain ⟨v_2, e_3, h⟩ := bind_some h
  refine st_reg mixed (by kernel_rfl) hS ?_
  refine cg (sp_load ty33 (od rfl)) ?_
  refine mv rfl ?_
  refine mv rfl ?_
  refine mv rfl ?_
  refine cg (sp_buildSlice [.tmp 30, .tmp 31] ([p2, p3] : List Int) sl37 ze3 rfl rfl rfl rfl ⟨od rfl, od rfl, trivial⟩) ?_
  refine cg (bd72_0 (od rfl)) ?_
  refine cg (sp_call en29 (f29_ok e_3) ⟨od rfl, od rfl, od rfl, trivial⟩) ?_
  refine cg (sp_assign (od rfl)) ?_
  refine sn fun a w hS => ?_
  refine et ?_
  refine ws ?_
  refine st_reg mixed (by kernel_rfl) hS ?_
  refine mv rfl ?_
  refine cg (sp_neq (od rfl) (odi)) ?_
  refine sn fun a w hS => ?_
  refine et ?_
  refine st_cond hS rfl (fun hb => ?_) (fun hb => ?_)
  · have h := ite_t hb h
    refine ws ?_
    refine l_start ?_
    refine s_c hS (sg (bd46_ )) rfl fun a w hS hM => ?_
    refine s_c hS (sg (sp_move (od rfl))) rfl fun a w hS hM => ?_
    refine s_storeB (k := 0) (Δ := [(12, Pr.ptr b_1), (37, isV (α := S_api_Span) ((0, 0) : S_api_Span)), (38, isV (α := Int) v_2)]) ty46 hS rfl ⟨od rfl, od rfl, od rfl, trivial⟩ ⟨fun _ _ _ _ h => h, fun _ _ _ _ h => h, fun _ _ _ _ h => h, trivial⟩ rfl (od rfl) fun w hS hM => ?_
    have hS : St _ F0 [Item.box (α := S_api_Span) 46 b_1 ((0, 0) : S_api_Span)] _ w0 _ _ := hS
    refine s_c hS (sg (sp_assign (odb))) rfl fun a w hS hM => ?_
    refine s_c hS (sg (sp_assign (od rfl))) rfl fun a w hS hM => ?_
    refine l_end ?_
    refine et ?_
    refine wp_ret ?_
    refine exit_thenR ?_
    have hS := st_freezeB 0 12 hS rfl rfl
    cases h
    obtain ⟨v, hr, hv⟩ := run_resC3 Tryz.results15 ty46 (hS.get rfl)
    exact st_ret hS hr ⟨_, rfl, hv, hS.get rfl, hS.get rfl, trivial⟩
  have h := ite_f hb h
  refine wp_skip ?_
  refine et ?_
  refine ws ?_
  refine st_reg mixed (by kernel_rfl) hS ?_
  refine cg (sp_assign (φ := Pr.is (.slice none 0 0)) (odc fun _ => rfl)) ?_
  refine sn fun a w hS => ?_
  have hS := st_nil (α := S_api_Offer) 23 hS
  have hS : St _ F0 [Item.box (α := S_api_Span) 46 b_1 ((0, 0) : S_api_Span), Item.sl (α := S_api_Offer) 23 (.slice none 0 0) ([] : List S_api_Offer)] _ w0 _ _ := hS
  refine et ?_
  refine ws ?_
  refine ws ?_
  refine st_reg mixed (by kernel_rfl) hS ?_
  refine mv rfl ?_
  refine cg (sp_len Tryz.underlying37 (od rfl)) ?_
  refine cg (sp_move (odi)) ?_
  refine sn fun a w hS => ?_
  refine et ?_
  refine wp_block ?_
  obtain ⟨o_7, e_8, hr_9⟩ := bind_some h
  refine c_loop (fun K a w => ∃ k i_4 s_6, ∃ u_10 : Value, K = k + 1 ∧ ForT _ _ _ o_7 k i_4 s_6 ∧ St 246 F0 [Item.box (α := S_api_Span) 46 b_1 ((0, 0) : S_api_Span), Item.sl (α := S_api_Offer) 23 u_10 s_6] [(2, isV (α := Int) p2), (3, isV (α := Int) p3), (4, isV (α := List S_api_Span) p4), (5, isV (α := List S_api_Span) p5), (6, isA (α := S_api_Market) p0), (12, Pr.ptr b_1), (16, Pr.is u_10), (39, isV (α := List Int) p1), (40, isV (α := Int) (p1.length : Int)), (41, isV (α := Int) i_4)] w0 a w) ?_ ?_ ⟨_, _, _, (.slice none 0 0), rfl, fors_init e_8, hS.weak ⟨od rfl, od rfl, od rfl, od rfl, od rfl, od rfl, od rfl, od rfl, od rfl, od rfl, trivial⟩⟩
  · rintro a w ⟨_, _, _, _, hk, _⟩; cases hk
  rintro K a w ⟨k_7, i_4, s_6, u_10, hk, hF_7, hS⟩
  obtain rfl := Nat.succ.inj hk
  refine ws ?_
  refine st_reg mixed (by kernel_rfl) hS ?_
  refine cg (sp_lss (od rfl) (od rfl)) ?_
  refine sn fun a w hS => ?_
  refine et ?_
  refine ws ?_
  refine st_cond hS rfl (fun hb => ?_) (fun hb => ?_)
  · refine wp_skip ?_
    refine et ?_
    obtain ⟨k_7, s', rfl, h, hF_7, hw_7⟩ := fors_more hF_7 hb
    refine ws ?_
    refine wp_block ?_
    refine ws ?_
    obtain ⟨v_11, e_12, h⟩ := bind_some h
    refine st_reg mixed (by kernel_rfl) hS ?_
    refine cg (sp_indexAddr sl37 (od rfl) (od rfl) e_12) ?_
    refine cg (sp_load ty3 (od rfl)) ?_
    refine cg (sp_assign (od rfl)) ?_
    refine sn fun a w hS => ?_
    refine et ?_
    obtain ⟨v_13, e_14, h⟩ := bind_some h
    obtain ⟨z_15, e_16, h⟩ := bind_some h
    refine l_start ?_
    refine s_c hS (sg (sp_move (od rfl))) rfl fun a w hS hM => ?_
    refine s_c hS (sg (sp_fieldAddr fd33_2 (od rfl))) rfl fun a w hS hM => ?_
    refine s_c hS (sg (sp_load ty31 (od rfl))) rfl fun a w hS hM => ?_
    refine s_c hS (sg (sp_move (od rfl))) rfl fun a w hS hM => ?_
    refine s_c hS (sg (sp_indexAddr sl31 (od rfl) (od rfl) e_14)) rfl fun a w hS hM => ?_
    refine s_c hS (sg (sp_load ty23 (od rfl))) rfl fun a w hS hM => ?_
    refine s_c hS (sg (sp_buildSlice [.tmp 50] ([v_13] : List S_api_Offer) sl31 ze23 rfl rfl rfl rfl ⟨od rfl, trivial⟩)) rfl fun a w hS hM => ?_
    refine s_append (k := 1) (Δ := [(2, isV (α := Int) p2), (3, isV (α := Int) p3), (4, isV (α := List S_api_Span) p4), (5, isV (α := List S_api_Span) p5), (6, isA (α := S_api_Market) p0), (12, Pr.ptr b_1), (39, isV (α := List Int) p1), (40, isV (α := Int) (p1.length : Int)), (41, isV (α := Int) i_4), (45, Pr.is u_10), (51, isV (α := List S_api_Offer) ([v_13] : List S_api_Offer))]) sl31 ze23 hS rfl ⟨od rfl, od rfl, od rfl, od rfl, od rfl, od rfl, od rfl, od rfl, od rfl, od rfl, od rfl, trivial⟩ ⟨fun _ _ _ _ h => h, fun _ _ _ _ h => h, fun _ _ _ _ h => h, fun _ _ _ _ h => h, fun _ _ _ _ h => h, fun _ _ _ _ h => h, fun _ _ _ _ h => h, fun _ _ _ _ h => h, fun _ _ _ _ h => h, fun _ _ _ _ h => h, fun _ _ _ _ h => h, trivial⟩ (od rfl) (od rfl) e_16 rfl fun a w u_17 hS hM => ?_
    have hS : St _ F0 [Item.box (α := S_api_Span) 46 b_1 ((0, 0) : S_api_Span), Item.sl (α := S_api_Offer) 23 u_17 z_15] _ w0 _ _ := hS
    refine s_c hS (sg (sp_assign (od rfl))) rfl fun a w hS hM => ?_
    refine l_end ?_
    refine exit_block ?_
    refine et ?_
    refine st_reg mixed (by kernel_rfl) hS ?_
    refine cg (sp_add (od rfl) (odi)) ?_
    refine mv rfl ?_
    refine sn fun a w hS => ?_
    cases h
    exact ⟨k_7, _, _, u_17, rfl, hF_7, hS.weak ⟨od rfl, od rfl, od rfl, od rfl, od rfl, od rfl, od rfl, od rfl, od rfl, od (congrArg (fun z => some (isV (α := Int) z)) hw_7), trivial⟩⟩
  refine wp_exit ?_
  obtain rfl := (fors_done hF_7 hb).symm
  have h := hr_9
  refine exit_thenE ?_
  refine exit_thenE ?_
  refine exit_here ?_
  refine et ?_
  refine ws ?_
  refine ws ?_
  have hS := st_freeze 1 16 hS rfl rfl
  obtain ⟨v_18, e_19, h⟩ := bind_some h
  obtain ⟨v_20, e_21, h⟩ := bind_some h
  refine st_reg mixed (by kernel_rfl) hS ?_
  refine cg (sp_fieldAddr fd33_1 (od rfl)) ?_
  refine cg (sp_load ty31 (od rfl)) ?_
  refine mv rfl ?_
  refine cg (sp_call en37 (f37_ok e_19) ⟨od rfl, od rfl, trivial⟩) ?_
  refine cg (sp_not (od rfl)) ?_
  refine mv rfl ?_
  refine sc (sgF rfl fun hG => sp_move (od rfl)) ?_
  refine sc (sgF rfl fun hG => sp_move (od rfl)) ?_
  refine sc (sgF rfl fun hG => sp_call en37 (f37_ok (guard_some e_21 hG)) ⟨odw rfl hG, odw rfl hG, trivial⟩) ?_
  refine sc (sgF rfl fun hG => sp_not (odw rfl hG)) ?_
  refine cg (sp_pickOr (od rfl) fun hg => odw rfl (not_t hg)) ?_
  refine sn fun a w hS => ?_
  refine et ?_
  refine st_cond hS rfl (fun hb => ?_) (fun hb => ?_)
  · have h := ite_t hb h
    refine ws ?_
    refine l_start ?_
    refine s_c hS (sg (bd46_ )) rfl fun a w hS hM => ?_
    refine s_storeB (k := 0) (Δ := [(12, Pr.ptr b_1), (65, isV (α := S_api_Span) ((0, 0) : S_api_Span))]) ty46 hS rfl ⟨od rfl, od rfl, trivial⟩ ⟨fun _ _ _ _ h => h, fun _ _ _ _ h => h, trivial⟩ rfl (od rfl) fun w hS hM => ?_
    have hS : St _ F0 [Item.box (α := S_api_Span) 46 b_1 ((0, 0) : S_api_Span)] _ w0 _ _ := hS
    refine s_c hS (sg (sp_assign (odb))) rfl fun a w hS hM => ?_
    refine s_c hS (sg (sp_assign (odi))) rfl fun a w hS hM => ?_
    refine l_end ?_
    refine et ?_
    refine wp_ret ?_
    refine exit_thenR ?_
    have hS := st_freezeB 0 12 hS rfl rfl
    cases h
    obtain ⟨v, hr, hv⟩ := run_resC3 Tryz.results15 ty46 (hS.get rfl)
    exact st_ret hS hr ⟨_, rfl, hv, hS.get rfl, hS.get rfl, trivial⟩
  have h := ite_f hb h
  refine wp_skip ?_
  refine et ?_
  refine ws ?_
  obtain ⟨m_22, e_23, h⟩ := bind_some h
  refine l_start ?_
  refine s_c hS (sg (sp_fieldAddr fd33_0 (od rfl))) rfl fun a w hS hM => ?_
  refine s_c hS (sg (sp_load ty3 (od rfl))) rfl fun a w hS hM => ?_
  refine s_callI en38 (f38_ok e_23) hS ⟨od rfl, trivial⟩ rfl fun a w u_24 x_25 hS hM => ?_
  have hS : St _ F0 [Item.box (α := S_api_Span) 46 b_1 ((0, 0) : S_api_Span), Item.tab (α := Int) 37 3 u_24 x_25.1 x_25.2 m_22] _ w0 _ _ := hS
  refine s_c hS (sg (sp_assign (od rfl))) rfl fun a w hS hM => ?_
  refine l_end ?_
  refine et ?_
  refine ws ?_
  refine ws ?_
  refine st_reg mixed (by kernel_rfl) hS ?_
  refine cg (sp_fieldAddr fd33_0 (od rfl)) ?_
  refine cg (sp_load ty3 (od rfl)) ?_
  refine cg (sp_move (odi)) ?_
  refine sn fun a w hS => ?_
  refine et ?_
  refine wp_block ?_
  obtain ⟨o_29, e_30, hr_31⟩ := bind_some h
  refine c_loop (fun K a w => ∃ k i_26 s_28, K = k + 1 ∧ ForT _ _ _ o_29 k i_26 s_28 ∧ St 246 F0 [Item.box (α := S_api_Span) 46 b_1 ((0, 0) : S_api_Span), Item.tab (α := Int) 37 3 u_24 x_25.1 x_25.2 s_28] [(2, isV (α := Int) p2), (3, isV (α := Int) p3), (4, isV (α := List S_api_Span) p4), (5, isV (α := List S_api_Span) p5), (6, isA (α := S_api_Market) p0), (12, Pr.ptr b_1), (16, isV (α := List S_api_Offer) s_6), (19, Pr.is u_24), (70, isV (α := Int) p0.1), (71, isV (α := Int) i_26)] w0 a w) ?_ ?_ ⟨_, _, _, rfl, fors_init e_30, hS.weak ⟨od rfl, od rfl, od rfl, od rfl, od rfl, od rfl, od rfl, od rfl, od rfl, od rfl, trivial⟩⟩
  · rintro a w ⟨_, _, _, hk, _⟩; cases hk
  rintro K a w ⟨k_29, i_26, s_28, hk, hF_29, hS⟩
  obtain rfl := Nat.succ.inj hk
  refine ws ?_
  refine st_reg mixed (by kernel_rfl) hS ?_
  refine cg (sp_lss (od rfl) (od rfl)) ?_
  refine sn fun a w hS => ?_
  refine et ?_
  refine ws ?_
  refine st_cond hS rfl (fun hb => ?_) (fun hb => ?_)
  · refine wp_skip ?_
    refine et ?_
    obtain ⟨k_29, s', rfl, h, hF_29, hw_29⟩ := fors_more hF_29 hb
    refine ws ?_
    refine wp_block ?_
    refine ws ?_
    refine st_reg mixed (by kernel_rfl) hS ?_
    refine mv rfl ?_
    refine cg (sp_assign (od rfl)) ?_
    refine sn fun a w hS => ?_
    refine et ?_
    obtain ⟨v_32, e_33, h⟩ := bind_some h
    obtain ⟨v_34, e_35, h⟩ := bind_some h
    obtain ⟨z_36, e_37, h⟩ := bind_some h
    refine l_start ?_
    refine s_c hS (sg (sp_move (od rfl))) rfl fun a w hS hM => ?_
    refine s_c hS (sg (sp_move (od rfl))) rfl fun a w hS hM => ?_
    have hS := st_tab 1 19 hS rfl rfl
    have hS := st_tab 1 74 hS rfl rfl
    refine s_c hS (sg (sp_indexAddrT Tryz.underlying74 sz37 (od rfl) (od rfl) e_33)) rfl fun a w hS hM => ?_
    refine s_c hS (sg (sp_loadTR Tryz.underlying37 (od rfl))) rfl fun a w hS hM => ?_
    refine s_c hS (sg (sp_move (od rfl))) rfl fun a w hS hM => ?_
    refine s_c hS (sg (sp_indexAddrTA sl37 (od rfl) (od rfl) e_35)) rfl fun a w hS hM => ?_
    refine s_storeTA (k := 1) (i := i_26) (j := i_26) (Δ := [(2, isV (α := Int) p2), (3, isV (α := Int) p3), (4, isV (α := List S_api_Span) p4), (5, isV (α := List S_api_Span) p5), (6, isA (α := S_api_Market) p0), (12, Pr.ptr b_1), (16, isV (α := List S_api_Offer) s_6), (19, Pr.is u_24), (70, isV (α := Int) p0.1), (71, isV (α := Int) i_26), (79, isHA Int x_25.2 i_26.toNat i_26.toNat)]) ty3 hS rfl ⟨od rfl, od rfl, od rfl, od rfl, od rfl, od rfl, od rfl, odTab rfl, od rfl, od rfl, odHA rfl, trivial⟩ ⟨fun _ _ _ _ h => h, fun _ _ _ _ h => h, fun _ _ _ _ h => h, fun _ _ _ _ h => h, fun _ _ _ _ h => h, fun _ _ _ _ h => h, fun _ _ _ _ h => h, fun _ _ _ _ h => h, fun _ _ _ _ h => h, fun _ _ _ _ h => h, fun _ _ _ _ h => h, trivial⟩ (odHA rfl) (odi) e_37 fun w hS hM => ?_
    have hS : St _ F0 [Item.box (α := S_api_Span) 46 b_1 ((0, 0) : S_api_Span), Item.tab (α := Int) 37 3 u_24 x_25.1 x_25.2 z_36] _ w0 _ _ := hS
    refine l_end ?_
    refine exit_block ?_
    refine et ?_
    refine st_reg mixed (by kernel_rfl) hS ?_
    refine cg (sp_add (od rfl) (odi)) ?_
    refine mv rfl ?_
    refine sn fun a w hS => ?_
    cases h
    exact ⟨k_29, _, _, rfl, hF_29, hS.weak ⟨od rfl, od rfl, od rfl, od rfl, od rfl, od rfl, od rfl, od rfl, od rfl, od (congrArg (fun z => some (isV (α := Int) z)) hw_29), trivial⟩⟩
  refine wp_exit ?_
  obtain rfl := (fors_done hF_29 hb).symm
  have h := hr_31
  refine exit_thenE ?_
  refine exit_thenE ?_
  refine exit_here ?_
  refine et ?_
  refine ws ?_
  refine ws ?_
  obtain ⟨v_38, e_39, h⟩ := bind_some h
  refine st_reg mixed (by kernel_rfl) hS ?_
  refine cg (sp_fieldAddr fd33_1 (od rfl)) ?_
  refine cg (sp_load ty31 (od rfl)) ?_
  refine mv rfl ?_
  refine cg (sp_buildSlice [.tmp 82, .tmp 83] ([p0.2.1, s_6] : List (List S_api_Offer)) sl110 ze31 rfl rfl rfl rfl ⟨od rfl, od rfl, trivial⟩) ?_
  refine cg (sp_call en39 (f39_ok e_39) ⟨od rfl, trivial⟩) ?_
  refine cg (sp_len Tryz.underlying31 (od rfl)) ?_
  refine cg (sp_move (odi)) ?_
  refine sn fun a w hS => ?_
  refine et ?_
  refine wp_block ?_
  obtain ⟨o_43, e_44, hr_45⟩ := bind_some h
  refine c_loop (fun K a w => ∃ k i_40 s_42, K = k + 1 ∧ ForT _ _ _ o_43 k i_40 s_42 ∧ St 246 F0 [Item.box (α := S_api_Span) 46 b_1 ((0, 0) : S_api_Span), Item.tab (α := Int) 37 3 u_24 x_25.1 x_25.2 s_42] [(2, isV (α := Int) p2), (3, isV (α := Int) p3), (4, isV (α := List S_api_Span) p4), (5, isV (α := List S_api_Span) p5), (6, isA (α := S_api_Market) p0), (12, Pr.ptr b_1), (19, Pr.is u_24), (85, isV (α := List S_api_Offer) v_38), (86, isV (α := Int) (v_38.length : Int)), (87, isV (α := Int) i_40)] w0 a w) ?_ ?_ ⟨_, _, _, rfl, fors_init e_44, hS.weak ⟨od rfl, od rfl, od rfl, od rfl, od rfl, od rfl, od rfl, od rfl, od rfl, od rfl, trivial⟩⟩
  · rintro a w ⟨_, _, _, hk, _⟩; cases hk
  rintro K a w ⟨k_43, i_40, s_42, hk, hF_43, hS⟩
  obtain rfl := Nat.succ.inj hk
  refine ws ?_
  refine st_reg mixed (by kernel_rfl) hS ?_
  refine cg (sp_lss (od rfl) (od rfl)) ?_
  refine sn fun a w hS => ?_
  refine et ?_
  refine ws ?_
  refine st_cond hS rfl (fun hb => ?_) (fun hb => ?_)
  · refine wp_skip ?_
    refine et ?_
    obtain ⟨k_43, s', rfl, h, hF_43, hw_43⟩ := fors_more hF_43 hb
    refine ws ?_
    refine wp_block ?_
    refine ws ?_
    obtain ⟨v_46, e_47, h⟩ := bind_some h
    refine l_start ?_
    refine s_c hS (sg (sp_move (od rfl))) rfl fun a w hS hM => ?_
    refine s_c hS (sg (sp_indexAddr sl31 (od rfl) (od rfl) e_47)) rfl fun a w hS hM => ?_
    refine s_c hS (sg (sp_load ty23 (od rfl))) rfl fun a w hS hM => ?_
    refine s_alloc zi23 hS rfl fun a w b_48 hS hM => ?_
    have hS : St _ F0 [Item.box (α := S_api_Span) 46 b_1 ((0, 0) : S_api_Span), Item.tab (α := Int) 37 3 u_24 x_25.1 x_25.2 s_42, Item.box (α := S_api_Offer) 23 b_48 ((0, 0, 0, 0) : S_api_Offer)] _ w0 _ _ := hS
    refine s_c hS (sg (sp_assign (od rfl))) rfl fun a w hS hM => ?_
    refine s_storeB (k := 2) (Δ := [(2, isV (α := Int) p2), (3, isV (α := Int) p3), (4, isV (α := List S_api_Span) p4), (5, isV (α := List S_api_Span) p5), (6, isA (α := S_api_Market) p0), (12, Pr.ptr b_1), (19, Pr.is u_24), (21, isV (α := Int) i_40), (22, Pr.ptr b_48), (85, isV (α := List S_api_Offer) v_38), (86, isV (α := Int) (v_38.length : Int)), (87, isV (α := Int) i_40), (91, isV (α := S_api_Offer) v_46)]) ty23 hS rfl ⟨od rfl, od rfl, od rfl, od rfl, od rfl, od rfl, od rfl, od rfl, od rfl, od rfl, od rfl, od rfl, od rfl, trivial⟩ ⟨fun _ _ _ _ h => h, fun _ _ _ _ h => h, fun _ _ _ _ h => h, fun _ _ _ _ h => h, fun _ _ _ _ h => h, fun _ _ _ _ h => h, fun _ _ _ _ h => h, fun _ _ _ _ h => h, fun _ _ _ _ h => h, fun _ _ _ _ h => h, fun _ _ _ _ h => h, fun _ _ _ _ h => h, fun _ _ _ _ h => h, trivial⟩ rfl (od rfl) fun w hS hM => ?_
    have hS : St _ F0 [Item.box (α := S_api_Span) 46 b_1 ((0, 0) : S_api_Span), Item.tab (α := Int) 37 3 u_24 x_25.1 x_25.2 s_42, Item.box (α := S_api_Offer) 23 b_48 v_46] _ w0 _ _ := hS
    have hS := st_freezeB 2 22 hS rfl rfl
    refine l_end ?_
    refine et ?_
    refine ws ?_
    obtain ⟨v_49, e_50, h⟩ := bind_some h
    obtain ⟨v_51, e_52, h⟩ := bind_some h
    refine l_start ?_
    refine s_c hS (sg (sp_move (od rfl))) rfl fun a w hS hM => ?_
    refine s_c hS (sg (sp_move (od rfl))) rfl fun a w hS hM => ?_
    refine s_c hS (sg (sp_buildSlice [.tmp 92, .tmp 93] ([p4, p5] : List (List S_api_Span)) sl112 ze49 rfl rfl rfl rfl ⟨od rfl, od rfl, trivial⟩)) rfl fun a w hS hM => ?_
    refine s_c hS (sg (sp_call en40 (f40_ok e_50) ⟨od rfl, trivial⟩)) rfl fun a w hS hM => ?_
    refine s_c hS (sg (sp_move (od rfl))) rfl fun a w hS hM => ?_
    refine s_c hS (sg (sp_indexAddr sl49 (od rfl) (od rfl) e_52)) rfl fun a w hS hM => ?_
    refine s_c hS (sg (sp_load ty46 (od rfl))) rfl fun a w hS hM => ?_
    refine s_allocStore ze46 hS (od rfl) (fun k hk => by cases hk; rfl) rfl fun a w hS hM => ?_
    refine l_end ?_
    refine et ?_
    have hS := st_tab 1 19 hS rfl rfl
    obtain ⟨v_53, e_54, h⟩ := bind_some h
    obtain ⟨v_55, e_56, h⟩ := bind_some h
    obtain ⟨v_57, e_58, h⟩ := bind_some h
    obtain ⟨v_59, e_60, h⟩ := bind_some h
    obtain ⟨v_61, e_62, h⟩ := bind_some h
    obtain ⟨v_63, e_64, h⟩ := bind_some h
    obtain ⟨v_65, e_66, h⟩ := bind_some h
    obtain ⟨z_67, e_68, h⟩ := bind_some h
    obtain ⟨v_69, e_70, h⟩ := bind_some h
    obtain ⟨z_71, e_72, h⟩ := bind_some h
    refine st_float mixed [0, 0, 0, 0, 0, 0, 0, 0, 0, 0, 0, 0, 1, 1, 0, 0, 0, 0, 0, 0, 0, 0, 0, 0, 0, 0, 0, 0, 0, 0, 0, 0, 0, 0, 0, 1, 1, 1, 1, 0, 2, 2, 2] (by kernel_rfl) (by kernel_rfl) hS ?_
    refine sfA (sg (sp_move (od rfl))) ?_
    refine sfA (sg (sp_fieldAddr fd23_1 (od rfl))) ?_
    refine sfA (sg (sp_load ty3 (od rfl))) ?_
    refine sfA (sg (sp_indexAddrT Tryz.underlying74 sz37 (od rfl) (od rfl) e_54)) ?_
    refine sfA (sg (sp_loadTR Tryz.underlying37 (od rfl))) ?_
    refine sfA (sg (sp_fieldAddr fd23_0 (od rfl))) ?_
    refine sfA (sg (sp_load ty3 (od rfl))) ?_
    refine sfA (sg (sp_move (od rfl))) ?_
    refine sfA (sg (sp_fieldAddr fd23_0 (od rfl))) ?_
    refine sfA (sg (sp_load ty3 (od rfl))) ?_
    refine sfA (sg (sp_indexAddrT Tryz.underlying74 sz37 (od rfl) (od rfl) e_56)) ?_
    refine sfA (sg (sp_loadTR Tryz.underlying37 (od rfl))) ?_
    refine sfF (sy (sy_fieldAddr fd23_1 (od rfl))) ?_
    refine sfF (sy (sy_load ty3 (od rfl))) ?_
    refine sfA (sg (sp_move (od rfl))) ?_
    refine sfA (sg (sp_fieldAddr fd23_1 (od rfl))) ?_
    refine sfA (sg (sp_load ty3 (od rfl))) ?_
    refine sfA (sg (sp_indexAddrT Tryz.underlying74 sz37 (od rfl) (od rfl) e_58)) ?_
    refine sfA (sg (sp_loadTR Tryz.underlying37 (od rfl))) ?_
    refine sfA (sg (sp_fieldAddr fd23_0 (od rfl))) ?_
    refine sfA (sg (sp_load ty3 (od rfl))) ?_
    refine sfA (sg (sp_indexAddrTA sl37 (od rfl) (od rfl) e_60)) ?_
    refine sfA (sg (sp_loadTA ty3 (od rfl))) ?_
    refine sfA (sg (sp_fieldAddr fd46_1 (od rfl))) ?_
    refine sfA (sg (sp_load ty3 (od rfl))) ?_
    refine sfA (sg (sp_min (od rfl) (od rfl))) ?_
    refine sfA (sg (sp_move (od rfl))) ?_
    refine sfA (sg (sp_fieldAddr fd23_0 (od rfl))) ?_
    refine sfA (sg (sp_load ty3 (od rfl))) ?_
    refine sfA (sg (sp_indexAddrT Tryz.underlying74 sz37 (od rfl) (od rfl) e_62)) ?_
    refine sfA (sg (sp_loadTR Tryz.underlying37 (od rfl))) ?_
    refine sfA (sg (sp_fieldAddr fd23_1 (od rfl))) ?_
    refine sfA (sg (sp_load ty3 (od rfl))) ?_
    refine sfA (sg (sp_indexAddrTA sl37 (od rfl) (od rfl) e_64)) ?_
    refine sfA (sg (sp_loadTA ty3 (od rfl))) ?_
    refine sfF (sy (sy_fieldAddr fd46_0 (od rfl))) ?_
    refine sfF (sy (sy_load ty3 (od rfl))) ?_
    refine sfF (sy (sy_neg (od rfl))) ?_
    refine sfF (sy (sy_min (od rfl) (od rfl))) ?_
    refine sfA (sg (sp_indexAddrTA sl37 (od rfl) (od rfl) e_66)) ?_
    refine sfT ?_
    refine sfT ?_
    refine sfT ?_
    refine sfN fun c a w hS hC => ?_
    refine ls ?_
    refine s_storeTA (k := 1) (i := v_46.2.1) (j := v_46.1) (Δ := [(2, isV (α := Int) p2), (3, isV (α := Int) p3), (4, isV (α := List S_api_Span) p4), (5, isV (α := List S_api_Span) p5), (6, isA (α := S_api_Market) p0), (12, Pr.ptr b_1), (19, Pr.is u_24), (85, isV (α := List S_api_Offer) v_38), (86, isV (α := Int) (v_38.length : Int)), (87, isV (α := Int) i_40), (110, isTHn x_25.2 v_46.1.toNat (List.length v_55)), (112, isV (α := Int) v_46.2.1), (124, isV (α := Int) (imin v_59 v_51.2)), (137, isV (α := Int) (imin v_63 (wr (0 - v_51.1)))), (138, isHA Int x_25.2 v_46.2.1.toNat v_46.1.toNat)]) ty3 hS rfl ⟨od rfl, od rfl, od rfl, od rfl, od rfl, od rfl, odTab rfl, od rfl, od rfl, od rfl, odTHn rfl, od rfl, od rfl, od rfl, odHA rfl, trivial⟩ ⟨fun _ _ _ _ h => h, fun _ _ _ _ h => h, fun _ _ _ _ h => h, fun _ _ _ _ h => h, fun _ _ _ _ h => h, fun _ _ _ _ h => h, fun _ _ _ _ h => h, fun _ _ _ _ h => h, fun _ _ _ _ h => h, fun _ _ _ _ h => h, fun _ _ _ _ h => h, fun _ _ _ _ h => h, fun _ _ _ _ h => h, fun _ _ _ _ h => h, fun _ _ _ _ h => h, trivial⟩ (odHA rfl) (od rfl) e_68 fun w hS hM => ?_
    have hS : St _ F0 [Item.box (α := S_api_Span) 46 b_1 ((0, 0) : S_api_Span), Item.tab (α := Int) 37 3 u_24 x_25.1 x_25.2 z_67] _ w0 _ _ := hS
    have hC := Mem.le_trans hC hM
    refine s_next hC ?_
    refine ls ?_
    refine s_c hS (sg (sp_indexAddrTHn sl37 (od rfl) (od rfl) e_70)) rfl fun a w hS hM => ?_
    have hC := Mem.le_trans hC hM
    refine s_next hC ?_
    refine ls ?_
    refine s_storeTA (k := 1) (i := v_46.1) (j := v_46.2.1) (Δ := [(2, isV (α := Int) p2), (3, isV (α := Int) p3), (4, isV (α := List S_api_Span) p4), (5, isV (α := List S_api_Span) p5), (6, isA (α := S_api_Market) p0), (12, Pr.ptr b_1), (19, Pr.is u_24), (85, isV (α := List S_api_Offer) v_38), (86, isV (α := Int) (v_38.length : Int)), (87, isV (α := Int) i_40), (137, isV (α := Int) (imin v_63 (wr (0 - v_51.1)))), (139, isHA Int x_25.2 v_46.1.toNat v_46.2.1.toNat)]) ty3 hS rfl ⟨od rfl, od rfl, od rfl, od rfl, od rfl, od rfl, od rfl, od rfl, od rfl, od rfl, od rfl, od rfl, trivial⟩ ⟨fun _ _ _ _ h => h, fun _ _ _ _ h => h, fun _ _ _ _ h => h, fun _ _ _ _ h => h, fun _ _ _ _ h => h, fun _ _ _ _ h => h, fun _ _ _ _ h => h, fun _ _ _ _ h => h, fun _ _ _ _ h => h, fun _ _ _ _ h => h, fun _ _ _ _ h => h, fun _ _ _ _ h => h, trivial⟩ (od rfl) (od rfl) e_72 fun w hS hM => ?_
    have hS : St _ F0 [Item.box (α := S_api_Span) 46 b_1 ((0, 0) : S_api_Span), Item.tab (α := Int) 37 3 u_24 x_25.1 x_25.2 z_71] _ w0 _ _ := hS
    have hC := Mem.le_trans hC hM
    refine s_next hC ?_
    refine s_done ?_
    refine exit_block ?_
    refine et ?_
    refine st_reg mixed (by kernel_rfl) hS ?_
    refine cg (sp_add (od rfl) (odi)) ?_
    refine mv rfl ?_
    refine sn fun a w hS => ?_
    cases h
    exact ⟨k_43, _, _, rfl, hF_43, hS.weak ⟨od rfl, od rfl, od rfl, od rfl, od rfl, od rfl, od rfl, od rfl, od rfl, od (congrArg (fun z => some (isV (α := Int) z)) hw_43), trivial⟩⟩
  refine wp_exit ?_
  obtain rfl := (fors_done hF_43 hb).symm
  have h := hr_45
  refine exit_thenE ?_
  refine exit_thenE ?_
  refine exit_here ?_
  refine et ?_
  refine ws ?_
  refine ws ?_
  refine st_reg mixed (by kernel_rfl) hS ?_
  refine cg (sp_fieldAddr fd33_0 (od rfl)) ?_
  refine cg (sp_load ty3 (od rfl)) ?_
  refine cg (sp_move (odi)) ?_
  refine sn fun a w hS => ?_
  refine et ?_
  refine wp_block ?_
  obtain ⟨o_76, e_77, hr_78⟩ := bind_some h
  refine c_loop (fun K a w => ∃ k i_73 s_75, K = k + 1 ∧ ForT _ _ _ o_76 k i_73 s_75 ∧ St 246 F0 [Item.box (α := S_api_Span) 46 b_1 ((0, 0) : S_api_Span), Item.tab (α := Int) 37 3 u_24 x_25.1 x_25.2 s_75] [(2, isV (α := Int) p2), (3, isV (α := Int) p3), (6, isA (α := S_api_Market) p0), (12, Pr.ptr b_1), (19, Pr.is u_24), (142, isV (α := Int) p0.1), (143, isV (α := Int) i_73)] w0 a w) ?_ ?_ ⟨_, _, _, rfl, fors_init e_77, hS.weak ⟨od rfl, od rfl, od rfl, od rfl, od rfl, od rfl, od rfl, trivial⟩⟩
  · rintro a w ⟨_, _, _, hk, _⟩; cases hk
  rintro K a w ⟨k_76, i_73, s_75, hk, hF_76, hS⟩
  obtain rfl := Nat.succ.inj hk
  refine ws ?_
  refine st_reg mixed (by kernel_rfl) hS ?_
  refine cg (sp_lss (od rfl) (od rfl)) ?_
  refine sn fun a w hS => ?_
  refine et ?_
  refine ws ?_
  refine st_cond hS rfl (fun hb => ?_) (fun hb => ?_)
  · refine wp_skip ?_
    refine et ?_
    obtain ⟨k_76, s', rfl, h, hF_76, hw_76⟩ := fors_more hF_76 hb
    refine ws ?_
    refine wp_block ?_
    refine ws ?_
    refine st_reg mixed (by kernel_rfl) hS ?_
    refine mv rfl ?_
    refine cg (sp_assign (od rfl)) ?_
    refine sn fun a w hS => ?_
    refine et ?_
    refine ws ?_
    refine st_reg mixed (by kernel_rfl) hS ?_
    refine cg (sp_fieldAddr fd33_0 (od rfl)) ?_
    refine cg (sp_load ty3 (od rfl)) ?_
    refine cg (sp_move (odi)) ?_
    refine sn fun a w hS => ?_
    refine et ?_
    refine wp_block ?_
    obtain ⟨o_82, e_83, hr_84⟩ := bind_some h
    refine c_loop (fun K a w => ∃ k i_79 s_81, K = k + 1 ∧ ForT _ _ _ o_82 k i_79 s_81 ∧ St 246 F0 [Item.box (α := S_api_Span) 46 b_1 ((0, 0) : S_api_Span), Item.tab (α := Int) 37 3 u_24 x_25.1 x_25.2 s_81] [(2, isV (α := Int) p2), (3, isV (α := Int) p3), (6, isA (α := S_api_Market) p0), (12, Pr.ptr b_1), (19, Pr.is u_24), (24, isV (α := Int) i_73), (142, isV (α := Int) p0.1), (143, isV (α := Int) i_73), (147, isV (α := Int) p0.1), (148, isV (α := Int) i_79)] w0 a w) ?_ ?_ ⟨_, _, _, rfl, fors_init e_83, hS.weak ⟨od rfl, od rfl, od rfl, od rfl, od rfl, od rfl, od rfl, od rfl, od rfl, od rfl, trivial⟩⟩
    · rintro a w ⟨_, _, _, hk, _⟩; cases hk
    rintro K a w ⟨k_82, i_79, s_81, hk, hF_82, hS⟩
    obtain rfl := Nat.succ.inj hk
    refine ws ?_
    refine st_reg mixed (by kernel_rfl) hS ?_
    refine cg (sp_lss (od rfl) (od rfl)) ?_
    refine sn fun a w hS => ?_
    refine et ?_
    refine ws ?_
    refine st_cond hS rfl (fun hb => ?_) (fun hb => ?_)
    · refine wp_skip ?_
      refine et ?_
      obtain ⟨k_82, s', rfl, h, hF_82, hw_82⟩ := fors_more hF_82 hb
      refine ws ?_
      refine wp_block ?_
      refine ws ?_
      refine st_reg mixed (by kernel_rfl) hS ?_
      refine mv rfl ?_
      refine cg (sp_assign (od rfl)) ?_
      refine sn fun a w hS => ?_
      refine et ?_
      refine ws ?_
      refine st_reg mixed (by kernel_rfl) hS ?_
      refine cg (sp_fieldAddr fd33_0 (od rfl)) ?_
      refine cg (sp_load ty3 (od rfl)) ?_
      refine cg (sp_move (odi)) ?_
      refine sn fun a w hS => ?_
      refine et ?_
      refine wp_block ?_
      obtain ⟨o_88, e_89, hr_90⟩ := bind_some h
      refine c_loop (fun K a w => ∃ k i_85 s_87, K = k + 1 ∧ ForT _ _ _ o_88 k i_85 s_87 ∧ St 246 F0 [Item.box (α := S_api_Span) 46 b_1 ((0, 0) : S_api_Span), Item.tab (α := Int) 37 3 u_24 x_25.1 x_25.2 s_87] [(2, isV (α := Int) p2), (3, isV (α := Int) p3), (6, isA (α := S_api_Market) p0), (12, Pr.ptr b_1), (19, Pr.is u_24), (24, isV (α := Int) i_73), (25, isV (α := Int) i_79), (142, isV (α := Int) p0.1), (143, isV (α := Int) i_73), (147, isV (α := Int) p0.1), (148, isV (α := Int) i_79), (152, isV (α := Int) p0.1), (153, isV (α := Int) i_85)] w0 a w) ?_ ?_ ⟨_, _, _, rfl, fors_init e_89, hS.weak ⟨od rfl, od rfl, od rfl, od rfl, od rfl, od rfl, od rfl, od rfl, od rfl, od rfl, od rfl, od rfl, od rfl, trivial⟩⟩
      · rintro a w ⟨_, _, _, hk, _⟩; cases hk
      rintro K a w ⟨k_88, i_85, s_87, hk, hF_88, hS⟩
      obtain rfl := Nat.succ.inj hk
      refine ws ?_
      refine st_reg mixed (by kernel_rfl) hS ?_
      refine cg (sp_lss (od rfl) (od rfl)) ?_
      refine sn fun a w hS => ?_
      refine et ?_
      refine ws ?_
      refine st_cond hS rfl (fun hb => ?_) (fun hb => ?_)
      · refine wp_skip ?_
        refine et ?_
        obtain ⟨k_88, s', rfl, h, hF_88, hw_88⟩ := fors_more hF_88 hb
        refine ws ?_
        refine wp_block ?_
        refine ws ?_
        refine st_reg mixed (by kernel_rfl) hS ?_
        refine mv rfl ?_
        refine cg (sp_assign (od rfl)) ?_
        refine sn fun a w hS => ?_
        refine et ?_
        refine ws ?_
        have hS := st_tab 1 19 hS rfl rfl
        obtain ⟨v_91, e_92, h⟩ := bind_some h
        obtain ⟨v_93, e_94, h⟩ := bind_some h
        obtain ⟨v_95, e_96, h⟩ := bind_some h
        obtain ⟨v_97, e_98, h⟩ := bind_some h
        refine st_reg mixed (by kernel_rfl) hS ?_
        refine mv rfl ?_
        refine mv rfl ?_
        refine cg (sp_indexAddrT Tryz.underlying74 sz37 (od rfl) (od rfl) e_92) ?_
        refine cg (sp_loadTR Tryz.underlying37 (od rfl)) ?_
        refine mv rfl ?_
        refine cg (sp_indexAddrTA sl37 (od rfl) (od rfl) e_94) ?_
        refine cg (sp_loadTA ty3 (od rfl)) ?_
        refine cg (sp_lss (od rfl) (odi)) ?_
        refine mv rfl ?_
        refine sc (sgT rfl fun hG => sp_move (od rfl)) ?_
        refine sc (sgT rfl fun hG => sp_move (od rfl)) ?_
        refine sc (sgT rfl fun hG => sp_indexAddrT Tryz.underlying74 sz37 (odw rfl hG) (odw rfl hG) (guard_some e_96 hG)) ?_
        refine sc (sgT rfl fun hG => sp_loadTR Tryz.underlying37 (odw rfl hG)) ?_
        refine sc (sgT rfl fun hG => sp_move (od rfl)) ?_
        refine sc (sgT rfl fun hG => sp_indexAddrTA sl37 (odw rfl hG) (odw rfl hG) (guard_some e_98 hG)) ?_
        refine sc (sgT rfl fun hG => sp_loadTA ty3 (odw rfl hG)) ?_
        refine sc (sgT rfl fun hG => sp_lss (odw rfl hG) (odi)) ?_
        refine cg (sp_pickAnd (od rfl) fun hg => odw rfl hg) ?_
        refine sn fun a w hS => ?_
        refine et ?_
        obtain ⟨y_100, hj_99, h⟩ := bind_some h
        refine wp_mono (Q := fun e a w => e = Exit.normal ∧ St 246 F0 [Item.box (α := S_api_Span) 46 b_1 ((0, 0) : S_api_Span), Item.tab (α := Int) 37 3 u_24 x_25.1 x_25.2 y_100] [(2, isV (α := Int) p2), (3, isV (α := Int) p3), (6, isA (α := S_api_Market) p0), (12, Pr.ptr b_1), (19, Pr.is u_24), (24, isV (α := Int) i_73), (25, isV (α := Int) i_79), (142, isV (α := Int) p0.1), (143, isV (α := Int) i_73), (147, isV (α := Int) p0.1), (148, isV (α := Int) i_79), (152, isV (α := Int) p0.1), (153, isV (α := Int) i_85)] w0 a w) ?_ ?_
        · refine st_cond hS rfl (fun hb => ?_) (fun hb => ?_)
          · have h := ite_t hb hj_99
            obtain ⟨v_101, e_102, h⟩ := bind_some h
            obtain ⟨v_103, e_104, h⟩ := bind_some h
            obtain ⟨v_105, e_106, h⟩ := bind_some h
            obtain ⟨v_107, e_108, h⟩ := bind_some h
            obtain ⟨v_109, e_110, h⟩ := bind_some h
            obtain ⟨v_111, e_112, h⟩ := bind_some h
            obtain ⟨v_113, e_114, h⟩ := bind_some h
            obtain ⟨v_115, e_116, h⟩ := bind_some h
            obtain ⟨z_117, e_118, h⟩ := bind_some h
            refine st_float mixed [0, 0, 0, 0, 0, 0, 0, 0, 0, 0, 0, 0, 0, 0, 0, 0, 0, 0, 0, 0, 0, 0, 0, 0, 0, 0, 0, 0, 0, 2] (by kernel_rfl) (by kernel_rfl) hS ?_
            refine sfA (sg (sp_move (od rfl))) ?_
            refine sfA (sg (sp_move (od rfl))) ?_
            refine sfA (sg (sp_indexAddrT Tryz.underlying74 sz37 (od rfl) (od rfl) e_102)) ?_
            refine sfA (sg (sp_loadTR Tryz.underlying37 (od rfl))) ?_
            refine sfA (sg (sp_move (od rfl))) ?_
            refine sfA (sg (sp_move (od rfl))) ?_
            refine sfA (sg (sp_move (od rfl))) ?_
            refine sfA (sg (sp_indexAddrT Tryz.underlying74 sz37 (od rfl) (od rfl) e_104)) ?_
            refine sfA (sg (sp_loadTR Tryz.underlying37 (od rfl))) ?_
            refine sfA (sg (sp_move (od rfl))) ?_
            refine sfA (sg (sp_indexAddrTA sl37 (od rfl) (od rfl) e_106)) ?_
            refine sfA (sg (sp_loadTA ty3 (od rfl))) ?_
            refine sfA (sg (sp_move (od rfl))) ?_
            refine sfA (sg (sp_move (od rfl))) ?_
            refine sfA (sg (sp_indexAddrT Tryz.underlying74 sz37 (od rfl) (od rfl) e_108)) ?_
            refine sfA (sg (sp_loadTR Tryz.underlying37 (od rfl))) ?_
            refine sfA (sg (sp_move (od rfl))) ?_
            refine sfA (sg (sp_indexAddrTA sl37 (od rfl) (od rfl) e_110)) ?_
            refine sfA (sg (sp_loadTA ty3 (od rfl))) ?_
            refine sfA (sg (sp_move (od rfl))) ?_
            refine sfA (sg (sp_move (od rfl))) ?_
            refine sfA (sg (sp_indexAddrT Tryz.underlying74 sz37 (od rfl) (od rfl) e_112)) ?_
            refine sfA (sg (sp_loadTR Tryz.underlying37 (od rfl))) ?_
            refine sfA (sg (sp_move (od rfl))) ?_
            refine sfA (sg (sp_indexAddrTA sl37 (od rfl) (od rfl) e_114)) ?_
            refine sfA (sg (sp_loadTA ty3 (od rfl))) ?_
            refine sfA (sg (sp_add (od rfl) (od rfl))) ?_
            refine sfA (sg (sp_min (od rfl) (od rfl))) ?_
            refine sfA (sg (sp_indexAddrTA sl37 (od rfl) (od rfl) e_116)) ?_
            refine sfT ?_
            refine sfN fun c a w hS hC => ?_
            refine ls ?_
            refine s_storeTA (k := 1) (i := i_79) (j := i_85) (Δ := [(2, isV (α := Int) p2), (3, isV (α := Int) p3), (6, isA (α := S_api_Market) p0), (12, Pr.ptr b_1), (19, Pr.is u_24), (24, isV (α := Int) i_73), (25, isV (α := Int) i_79), (142, isV (α := Int) p0.1), (143, isV (α := Int) i_73), (147, isV (α := Int) p0.1), (148, isV (α := Int) i_79), (152, isV (α := Int) p0.1), (153, isV (α := Int) i_85), (201, isV (α := Int) (imin v_105 (wr (v_109 + v_113)))), (202, isHA Int x_25.2 i_79.toNat i_85.toNat)]) ty3 hS rfl ⟨od rfl, od rfl, od rfl, od rfl, odTab rfl, od rfl, od rfl, od rfl, od rfl, od rfl, od rfl, od rfl, od rfl, od rfl, odHA rfl, trivial⟩ ⟨fun _ _ _ _ h => h, fun _ _ _ _ h => h, fun _ _ _ _ h => h, fun _ _ _ _ h => h, fun _ _ _ _ h => h, fun _ _ _ _ h => h, fun _ _ _ _ h => h, fun _ _ _ _ h => h, fun _ _ _ _ h => h, fun _ _ _ _ h => h, fun _ _ _ _ h => h, fun _ _ _ _ h => h, fun _ _ _ _ h => h, fun _ _ _ _ h => h, fun _ _ _ _ h => h, trivial⟩ (odHA rfl) (od rfl) e_118 fun w hS hM => ?_
            have hS : St _ F0 [Item.box (α := S_api_Span) 46 b_1 ((0, 0) : S_api_Span), Item.tab (α := Int) 37 3 u_24 x_25.1 x_25.2 z_117] _ w0 _ _ := hS
            have hC := Mem.le_trans hC hM
            refine s_next hC ?_
            refine s_done ?_
            cases h
            exact ⟨rfl, hS.weak ⟨od rfl, od rfl, od rfl, od rfl, od rfl, od rfl, od rfl, od rfl, od rfl, od rfl, od rfl, od rfl, od rfl, trivial⟩⟩
          have h := ite_f hb hj_99
          refine wp_skip ?_
          cases h
          exact ⟨rfl, hS.weak ⟨od rfl, od rfl, od rfl, od rfl, odTab rfl, od rfl, od rfl, od rfl, od rfl, od rfl, od rfl, od rfl, od rfl, trivial⟩⟩
        rintro e a w ⟨rfl, hS⟩
        refine exit_block ?_
        refine et ?_
        refine st_reg mixed (by kernel_rfl) hS ?_
        refine cg (sp_add (od rfl) (odi)) ?_
        refine mv rfl ?_
        refine sn fun a w hS => ?_
        cases h
        exact ⟨k_88, _, _, rfl, hF_88, hS.weak ⟨od rfl, od rfl, od rfl, od rfl, od rfl, od rfl, od rfl, od rfl, od rfl, od rfl, od rfl, od rfl, od (congrArg (fun z => some (isV (α := Int) z)) hw_88), trivial⟩⟩
      refine wp_exit ?_
      obtain rfl := (fors_done hF_88 hb).symm
      have h := hr_90
      refine exit_thenE ?_
      refine exit_thenE ?_
      refine exit_here ?_
      refine exit_block ?_
      refine et ?_
      refine st_reg mixed (by kernel_rfl) hS ?_
      refine cg (sp_add (od rfl) (odi)) ?_
      refine mv rfl ?_
      refine sn fun a w hS => ?_
      cases h
      exact ⟨k_82, _, _, rfl, hF_82, hS.weak ⟨od rfl, od rfl, od rfl, od rfl, od rfl, od rfl, od rfl, od rfl, od rfl, od (congrArg (fun z => some (isV (α := Int) z)) hw_82), trivial⟩⟩
    refine wp_exit ?_
    obtain rfl := (fors_done hF_82 hb).symm
    have h := hr_84
    refine exit_thenE ?_
    refine exit_thenE ?_
    refine exit_here ?_
    refine exit_block ?_
    refine et ?_
    refine st_reg mixed (by kernel_rfl) hS ?_
    refine cg (sp_add (od rfl) (odi)) ?_
    refine mv rfl ?_
    refine sn fun a w hS => ?_
    cases h
    exact ⟨k_76, _, _, rfl, hF_76, hS.weak ⟨od rfl, od rfl, od rfl, od rfl, od rfl, od rfl, od (congrArg (fun z => some (isV (α := Int) z)) hw_76), trivial⟩⟩
  refine wp_exit ?_
  obtain rfl := (fors_done hF_76 hb).symm
  have h := hr_78
  refine exit_thenE ?_
  refine exit_thenE ?_
  refine exit_here ?_
  refine et ?_
  refine ws ?_
  refine ws ?_
  refine st_reg mixed (by kernel_rfl) hS ?_
  refine cg (sp_fieldAddr fd33_0 (od rfl)) ?_
  refine cg (sp_load ty3 (od rfl)) ?_
  refine cg (sp_move (odi)) ?_
  refine sn fun a w hS => ?_
  refine et ?_
  refine wp_block ?_
  obtain ⟨o_122, e_123, hr_124⟩ := bind_some h
  refine c_loop (fun K a w => ∃ k i_119 s_121, K = k + 1 ∧ ForI _ _ _ o_122 k i_119 s_121 ∧ St 246 F0 [Item.box (α := S_api_Span) 46 b_1 ((0, 0) : S_api_Span), Item.tab (α := Int) 37 3 u_24 x_25.1 x_25.2 s_75] [(2, isV (α := Int) p2), (3, isV (α := Int) p3), (12, Pr.ptr b_1), (19, Pr.is u_24), (207, isV (α := Int) p0.1), (208, isV (α := Int) i_119)] w0 a w) ?_ ?_ ⟨_, _, _, rfl, for_init e_123, hS.weak ⟨od rfl, od rfl, od rfl, od rfl, od rfl, od rfl, trivial⟩⟩
  · rintro a w ⟨_, _, _, hk, _⟩; cases hk
  rintro K a w ⟨k_122, i_119, s_121, hk, hF_122, hS⟩
  obtain rfl := Nat.succ.inj hk
  refine ws ?_
  refine st_reg mixed (by kernel_rfl) hS ?_
  refine cg (sp_lss (od rfl) (od rfl)) ?_
  refine sn fun a w hS => ?_
  refine et ?_
  refine ws ?_
  refine st_cond hS rfl (fun hb => ?_) (fun hb => ?_)
  · refine wp_skip ?_
    refine et ?_
    obtain ⟨k_122, o, rfl, h, hN_122, hL_122, hw_122⟩ := for_more hF_122 hb
    refine ws ?_
    refine wp_block ?_
    refine ws ?_
    refine st_reg mixed (by kernel_rfl) hS ?_
    refine mv rfl ?_
    refine cg (sp_assign (od rfl)) ?_
    refine sn fun a w hS => ?_
    refine et ?_
    refine ws ?_
    have hS := st_tab 1 19 hS rfl rfl
    obtain ⟨v_125, e_126, h⟩ := bind_some h
    obtain ⟨v_127, e_128, h⟩ := bind_some h
    refine st_reg mixed (by kernel_rfl) hS ?_
    refine mv rfl ?_
    refine mv rfl ?_
    refine cg (sp_indexAddrT Tryz.underlying74 sz37 (od rfl) (od rfl) e_126) ?_
    refine cg (sp_loadTR Tryz.underlying37 (od rfl)) ?_
    refine mv rfl ?_
    refine cg (sp_indexAddrTA sl37 (od rfl) (od rfl) e_128) ?_
    refine cg (sp_loadTA ty3 (od rfl)) ?_
    refine cg (sp_lss (od rfl) (odi)) ?_
    refine sn fun a w hS => ?_
    refine et ?_
    refine st_cond hS rfl (fun hb => ?_) (fun hb => ?_)
    · have h := ite_t hb h
      refine ws ?_
      have hS := st_drop 1 hS
      refine l_start ?_
      refine s_c hS (sg (bd46_ )) rfl fun a w hS hM => ?_
      refine s_storeB (k := 0) (Δ := [(12, Pr.ptr b_1), (219, isV (α := S_api_Span) ((0, 0) : S_api_Span))]) ty46 hS rfl ⟨od rfl, od rfl, trivial⟩ ⟨fun _ _ _ _ h => h, fun _ _ _ _ h => h, trivial⟩ rfl (od rfl) fun w hS hM => ?_
      have hS : St _ F0 [Item.box (α := S_api_Span) 46 b_1 ((0, 0) : S_api_Span)] _ w0 _ _ := hS
      refine s_c hS (sg (sp_assign (odb))) rfl fun a w hS hM => ?_
      refine s_c hS (sg (sp_assign (odi))) rfl fun a w hS hM => ?_
      refine l_end ?_
      refine et ?_
      refine wp_ret ?_
      refine exit_blockR ?_
      refine exit_thenR ?_
      have hS := st_freezeB 0 12 hS rfl rfl
      cases h
      obtain rfl := hL_122 _ rfl
      have h := (elim_leave hr_124)
      refine exit_thenR ?_
      refine exit_blockR ?_
      refine exit_thenR ?_
      cases h
      obtain ⟨v, hr, hv⟩ := run_resC3 Tryz.results15 ty46 (hS.get rfl)
      exact st_ret hS hr ⟨_, rfl, hv, hS.get rfl, hS.get rfl, trivial⟩
    have h := ite_f hb h
    refine wp_skip ?_
    refine exit_block ?_
    refine et ?_
    refine st_reg mixed (by kernel_rfl) hS ?_
    refine cg (sp_add (od rfl) (odi)) ?_
    refine mv rfl ?_
    refine sn fun a w hS => ?_
    cases h
    exact ⟨k_122, _, _, rfl, hN_122 _ rfl, hS.weak ⟨od rfl, od rfl, od rfl, odTab rfl, od rfl, od (congrArg (fun z => some (isV (α := Int) z)) hw_122), trivial⟩⟩
  refine wp_exit ?_
  obtain rfl := for_done hF_122 hb
  have h := elim_again hr_124
  refine exit_thenE ?_
  refine exit_thenE ?_
  refine exit_here ?_
  refine et ?_
  refine ws ?_
  refine ws ?_
  have hS := st_tab 1 19 hS rfl rfl
  obtain ⟨v_129, e_130, h⟩ := bind_some h
  obtain ⟨v_131, e_132, h⟩ := bind_some h
  refine st_reg mixed (by kernel_rfl) hS ?_
  refine mv rfl ?_
  refine mv rfl ?_
  refine cg (sp_indexAddrT Tryz.underlying74 sz37 (od rfl) (od rfl) e_130) ?_
  refine cg (sp_loadTR Tryz.underlying37 (od rfl)) ?_
  refine mv rfl ?_
  refine cg (sp_indexAddrTA sl37 (od rfl) (od rfl) e_132) ?_
  refine cg (sp_loadTA ty3 (od rfl)) ?_
  refine cg (sp_geq (od rfl) (odi)) ?_
  refine sn fun a w hS => ?_
  refine et ?_
  refine st_cond hS rfl (fun hb => ?_) (fun hb => ?_)
  · have h := ite_t hb h
    refine ws ?_
    have hS := st_drop 1 hS
    refine l_start ?_
    refine s_c hS (sg (bd46_ )) rfl fun a w hS hM => ?_
    refine s_storeB (k := 0) (Δ := [(12, Pr.ptr b_1), (229, isV (α := S_api_Span) ((0, 0) : S_api_Span))]) ty46 hS rfl ⟨od rfl, od rfl, trivial⟩ ⟨fun _ _ _ _ h => h, fun _ _ _ _ h => h, trivial⟩ rfl (od rfl) fun w hS hM => ?_
    have hS : St _ F0 [Item.box (α := S_api_Span) 46 b_1 ((0, 0) : S_api_Span)] _ w0 _ _ := hS
    refine s_c hS (sg (sp_assign (odb))) rfl fun a w hS hM => ?_
    refine s_c hS (sg (sp_assign (odi))) rfl fun a w hS hM => ?_
    refine l_end ?_
    refine et ?_
    refine wp_ret ?_
    refine exit_thenR ?_
    have hS := st_freezeB 0 12 hS rfl rfl
    cases h
    obtain ⟨v, hr, hv⟩ := run_resC3 Tryz.results15 ty46 (hS.get rfl)
    exact st_ret hS hr ⟨_, rfl, hv, hS.get rfl, hS.get rfl, trivial⟩
  have h := ite_f hb h
  refine wp_skip ?_
  refine et ?_
  refine ws ?_
  obtain ⟨v_133, e_134, h⟩ := bind_some h
  obtain ⟨v_135, e_136, h⟩ := bind_some h
  obtain ⟨v_137, e_138, h⟩ := bind_some h
  obtain ⟨v_139, e_140, h⟩ := bind_some h
  refine st_float mixed [0, 0, 0, 0, 0, 0, 0, 0, 0, 0, 0, 0, 0, 0, 0, 0, 2, 2, 2] (by kernel_rfl) (by kernel_rfl) hS ?_
  refine sfA (sg (sp_move (od rfl))) ?_
  refine sfA (sg (sp_move (od rfl))) ?_
  refine sfA (sg (sp_indexAddrT Tryz.underlying74 sz37 (od rfl) (od rfl) e_134)) ?_
  refine sfA (sg (sp_loadTR Tryz.underlying37 (od rfl))) ?_
  refine sfA (sg (sp_move (od rfl))) ?_
  refine sfA (sg (sp_indexAddrTA sl37 (od rfl) (od rfl) e_136)) ?_
  refine sfA (sg (sp_loadTA ty3 (od rfl))) ?_
  refine sfA (sg (sp_neg (od rfl))) ?_
  refine sfA (sg (sp_move (od rfl))) ?_
  refine sfA (sg (sp_move (od rfl))) ?_
  refine sfA (sg (sp_indexAddrT Tryz.underlying74 sz37 (od rfl) (od rfl) e_138)) ?_
  refine sfA (sg (sp_loadTR Tryz.underlying37 (od rfl))) ?_
  refine sfA (sg (sp_move (od rfl))) ?_
  refine sfA (sg (sp_indexAddrTA sl37 (od rfl) (od rfl) e_140)) ?_
  refine sfA (sg (sp_loadTA ty3 (od rfl))) ?_
  refine sfA (sg (bd46_01 (od rfl) (od rfl))) ?_
  refine sfT ?_
  refine sfT ?_
  refine sfT ?_
  refine sfN fun c a w hS hC => ?_
  refine ls ?_
  refine s_storeB (k := 0) (Δ := [(12, Pr.ptr b_1), (245, isV (α := S_api_Span) (((wr (0 - v_135)), v_139) : S_api_Span))]) ty46 hS rfl ⟨od rfl, od rfl, trivial⟩ ⟨fun _ _ _ _ h => h, fun _ _ _ _ h => h, trivial⟩ rfl (od rfl) fun w hS hM => ?_
  have hS : St _ F0 [Item.box (α := S_api_Span) 46 b_1 (((wr (0 - v_135)), v_139) : S_api_Span), Item.tab (α := Int) 37 3 u_24 x_25.1 x_25.2 s_75] _ w0 _ _ := hS
  have hC := Mem.le_trans hC hM
  refine s_next hC ?_
  refine ls ?_
  refine s_c hS (sg (sp_assign (odb))) rfl fun a w hS hM => ?_
  have hC := Mem.le_trans hC hM
  refine s_next hC ?_
  refine ls ?_
  refine s_c hS (sg (sp_assign (odi))) rfl fun a w hS hM => ?_
  have hC := Mem.le_trans hC hM
  refine s_next hC ?_
  refine s_done ?_
  refine et ?_
  refine wp_ret ?_
  have hS := st_freezeB 0 12 hS rfl rfl
  cases h
  obtain ⟨v, hr, hv⟩ := run_resC3 Tryz.results15 ty46 (hS.get rfl)
  exact st_ret hS hr ⟨_, rfl, hv, hS.get rfl, hS.get rfl, trivial⟩

theorem f44_ok {p0 : S_api_Market} {r : Int} (h : M.f44 p0 = some r) : CallOK Tryz.prog 44 [isV p0] (isV r) := by
  unfold M.f44 at h
  refine callS_of Tryz.func44 rfl Tryz.ntmps44 rfl fun F0 w0 a hS => ?_
  refine ws ?_
  refine st_reg mixed (by kernel_rfl) hS ?_
  refine cg (sp_box (od rfl)) ?_
  refine cg (sp_assign (odi)) ?_
  refine sn fun a w hS => ?_
  refine et ?_
  refine ws ?_
  obtain ⟨v_1, e_2, h⟩ := bind_some h
  refine st_reg mixed (by kernel_rfl) hS ?_
  refine cg (sp_fieldAddr fd33_2 (od rfl)) ?_
  refine cg (sp_load ty31 (od rfl)) ?_
  refine cg (sp_len Tryz.underlying31 (od rfl)) ?_
  refine cg (sp_shl (odi) (od rfl) e_2) ?_
  refine cg (sp_sub (od rfl) (odi)) ?_
  refine cg (sp_assign (od rfl)) ?_
  refine sn fun a w hS => ?_
  refine et ?_
  refine wp_ret ?_
  cases h
  exact st_ret hS (run_results1 Tryz.results44 a w) (hS.get rfl)

theorem f41_ok {p0 : S_api_Market} {p1 : Int} {p2 : Int} {p3 : Int} {r : Int} (h : M.f41 p0 p1 p2 p3 = some r) : CallOK Tryz.prog 41 [isV p0, isV p1, isV p2, isV p3] (isV r) := by
  unfold M.f41 at h
  refine callS_of Tryz.func41 rfl Tryz.ntmps41 rfl fun F0 w0 a hS => ?_
  refine ws ?_
  refine st_reg mixed (by kernel_rfl) hS ?_
  refine cg (sp_box (od rfl)) ?_
  refine cg (sp_assign (odi)) ?_
  refine sn fun a w hS => ?_
  refine et ?_
  refine ws ?_
  refine ws ?_
  obtain ⟨v_1, e_2, h⟩ := bind_some h
  refine st_reg mixed (by kernel_rfl) hS ?_
  refine cg (sp_load ty33 (od rfl)) ?_
  refine mv rfl ?_
  refine mv rfl ?_
  refine cg (sp_buildSlice [.tmp 11, .tmp 12] ([p1, p2] : List Int) sl37 ze3 rfl rfl rfl rfl ⟨od rfl, od rfl, trivial⟩) ?_
  refine mv rfl ?_
  refine cg (sp_buildSlice [.tmp 14] ([p3] : List Int) sl37 ze3 rfl rfl rfl rfl ⟨od rfl, trivial⟩) ?_
  refine cg (bd72_01 (od rfl) (od rfl)) ?_
  refine cg (sp_call en29 (f29_ok e_2) ⟨od rfl, odnil (α := Int), od rfl, trivial⟩) ?_
  refine cg (sp_assign (od rfl)) ?_
  refine sn fun a w hS => ?_
  refine et ?_
  refine ws ?_
  refine st_reg mixed (by kernel_rfl) hS ?_
  refine mv rfl ?_
  refine cg (sp_neq (od rfl) (odi)) ?_
  refine sn fun a w hS => ?_
  refine et ?_
  refine st_cond hS rfl (fun hb => ?_) (fun hb => ?_)
  · have h := ite_t hb h
    refine ws ?_
    refine st_reg mixed (by kernel_rfl) hS ?_
    refine mv rfl ?_
    refine cg (sp_assign (od rfl)) ?_
    refine sn fun a w hS => ?_
    refine et ?_
    refine wp_ret ?_
    refine exit_thenR ?_
    cases h
    exact st_ret hS (run_results1 Tryz.results41 a w) (hS.get rfl)
  have h := ite_f hb h
  refine wp_skip ?_
  refine et ?_
  refine ws ?_
  refine ws ?_
  obtain ⟨v_3, e_4, h⟩ := bind_some h
  obtain ⟨v_5, e_6, h⟩ := bind_some h
  obtain ⟨v_7, e_8, h⟩ := bind_some h
  refine st_reg mixed (by kernel_rfl) hS ?_
  refine cg (sp_load ty33 (od rfl)) ?_
  refine mv rfl ?_
  refine mv rfl ?_
  refine mv rfl ?_
  refine cg (sp_call en32 (f32_ok e_4) ⟨od rfl, od rfl, od rfl, od rfl, trivial⟩) ?_
  refine cg (ff82_0 (od rfl)) ?_
  refine cg (sp_load ty33 (od rfl)) ?_
  refine cg (sp_call en44 (f44_ok e_6) ⟨od rfl, trivial⟩) ?_
  refine cg (sp_callV (od_fn80 (od rfl)) ⟨od rfl, trivial⟩ e_8) ?_
  refine cg (sp_not (od rfl)) ?_
  refine sn fun a w hS => ?_
  refine et ?_
  refine st_cond hS rfl (fun hb => ?_) (fun hb => ?_)
  · have h := ite_t hb h
    refine ws ?_
    refine st_reg mixed (by kernel_rfl) hS ?_
    refine cg (sp_assign (odi)) ?_
    refine sn fun a w hS => ?_
    refine et ?_
    refine wp_ret ?_
    refine exit_thenR ?_
    cases h
    exact st_ret hS (run_results1 Tryz.results41 a w) (hS.get rfl)
  have h := ite_f hb h
  refine wp_skip ?_
  refine et ?_
  refine ws ?_
  refine st_reg mixed (by kernel_rfl) hS ?_
  refine cg (sp_assign (odi)) ?_
  refine sn fun a w hS => ?_
  refine et ?_
  refine wp_ret ?_
  cases h
  exact st_ret hS (run_results1 Tryz.results41 a w) (hS.get rfl)

theorem f42_ok {p0 : Int} {c0 : Int} {c1 : S_keeper_want} {r : Bool} (h : M.f42 p0 c0 c1 = some r) : CallOK Tryz.prog 42 [isV p0, isA c0, isA c1] (isV r) := by
  unfold M.f42 at h
  refine callS_of Tryz.func42 rfl Tryz.ntmps42 rfl fun F0 w0 a hS => ?_
  refine ws ?_
  refine st_reg mixed (by kernel_rfl) hS ?_
  refine cg (sp_assign (odb)) ?_
  refine sn fun a w hS => ?_
  refine et ?_
  refine ws ?_
  obtain ⟨v_1, e_2, h⟩ := bind_some h
  obtain ⟨v_3, e_4, h⟩ := bind_some h
  refine st_reg mixed (by kernel_rfl) hS ?_
  refine mv rfl ?_
  refine cg (sp_load ty3 (od rfl)) ?_
  refine cg (sp_shr (od rfl) (od rfl) e_2) ?_
  refine cg (sp_and (od rfl) (odi)) ?_
  refine cg (sp_eql (od rfl) (odi)) ?_
  refine mv rfl ?_
  refine sc (sgT rfl fun hG => sp_fieldAddr fd82_0 (od rfl)) ?_
  refine sc (sgT rfl fun hG => sp_load ty80 (odw rfl hG)) ?_
  refine sc (sgT rfl fun hG => sp_move (od rfl)) ?_
  refine sc (sgT rfl fun hG => sp_callV (od_fn80 (odw rfl hG)) ⟨odw rfl hG, trivial⟩ (guard_some e_4 hG)) ?_
  refine cg (sp_pickAnd (od rfl) fun hg => odw rfl hg) ?_
  refine cg (sp_assign (od rfl)) ?_
  refine sn fun a w hS => ?_
  refine et ?_
  refine wp_ret ?_
  cases h
  exact st_ret hS (run_results1 Tryz.results42 a w) (hS.get rfl)

theorem f43_ok {p0 : Int} {c0 : Int} {c1 : S_keeper_want} {r : Bool} (h : M.f43 p0 c0 c1 = some r) : CallOK Tryz.prog 43 [isV p0, isA c0, isA c1] (isV r) := by
  unfold M.f43 at h
  refine callS_of Tryz.func43 rfl Tryz.ntmps43 rfl fun F0 w0 a hS => ?_
  refine ws ?_
  refine st_reg mixed (by kernel_rfl) hS ?_
  refine cg (sp_assign (odb)) ?_
  refine sn fun a w hS => ?_
  refine et ?_
  refine ws ?_
  obtain ⟨v_1, e_2, h⟩ := bind_some h
  obtain ⟨v_3, e_4, h⟩ := bind_some h
  refine st_reg mixed (by kernel_rfl) hS ?_
  refine mv rfl ?_
  refine cg (sp_load ty3 (od rfl)) ?_
  refine cg (sp_shr (od rfl) (od rfl) e_2) ?_
  refine cg (sp_and (od rfl) (odi)) ?_
  refine cg (sp_eql (od rfl) (odi)) ?_
  refine mv rfl ?_
  refine sc (sgT rfl fun hG => sp_fieldAddr fd82_0 (od rfl)) ?_
  refine sc (sgT rfl fun hG => sp_load ty80 (odw rfl hG)) ?_
  refine sc (sgT rfl fun hG => sp_move (od rfl)) ?_
  refine sc (sgT rfl fun hG => sp_callV (od_fn80 (odw rfl hG)) ⟨odw rfl hG, trivial⟩ (guard_some e_4 hG)) ?_
  refine cg (sp_pickAnd (od rfl) fun hg => odw rfl hg) ?_
  refine cg (sp_assign (od rfl)) ?_
  refine sn fun a w hS => ?_
  refine et ?_
  refine wp_ret ?_
  cases h
  exact st_ret hS (run_results1 Tryz.results43 a w) (hS.get rfl)

theorem f16_ok {p0 : S_api_Market} {p1 : Int} {p2 : Int} {p3 : Int} {p4 : Int} {r : Int × Bool × Int} (h : M.f16 p0 p1 p2 p3 p4 = some r) : CallOK Tryz.prog 16 [isV p0, isV p1, isV p2, isV p3, isV p4] (isTup [isV r.1, isV r.2.1, isV r.2.2]) := by
  unfold M.f16 at h
  refine callS_of Tryz.func16 rfl Tryz.ntmps16 rfl fun F0 w0 a hS => ?_
  refine ws ?_
  refine st_reg mixed (by kernel_rfl) hS ?_
  refine cg (sp_box (od rfl)) ?_
  refine cg (sp_box (od rfl)) ?_
  refine cg (sp_assign (odi)) ?_
  refine cg (sp_assign (odb)) ?_
  refine cg (sp_assign (odi)) ?_
  refine sn fun a w hS => ?_
  refine et ?_
  refine ws ?_
  refine ws ?_
  obtain ⟨v_1, e_2, h⟩ := bind_some h
  refine st_reg mixed (by kernel_rfl) hS ?_
  refine cg (sp_load ty33 (od rfl)) ?_
  refine mv rfl ?_
  refine mv rfl ?_
  refine cg (sp_buildSlice [.tmp 19, .tmp 20] ([p1, p2] : List Int) sl37 ze3 rfl rfl rfl rfl ⟨od rfl, od rfl, trivial⟩) ?_
  refine mv rfl ?_
  refine cg (sp_buildSlice [.tmp 22] ([p3] : List Int) sl37 ze3 rfl rfl rfl rfl ⟨od rfl, trivial⟩) ?_
  refine cg (bd72_01 (od rfl) (od rfl)) ?_
  refine cg (sp_call en29 (f29_ok e_2) ⟨od rfl, odnil (α := Int), od rfl, trivial⟩) ?_
  refine cg (sp_assign (od rfl)) ?_
  refine sn fun a w hS => ?_
  refine et ?_
  refine ws ?_
  refine st_reg mixed (by kernel_rfl) hS ?_
  refine mv rfl ?_
  refine cg (sp_neq (od rfl) (odi)) ?_
  refine sn fun a w hS => ?_
  refine et ?_
  refine st_cond hS rfl (fun hb => ?_) (fun hb => ?_)
  · have h := ite_t hb h
    refine ws ?_
    refine st_reg mixed (by kernel_rfl) hS ?_
    refine mv rfl ?_
    refine cg (sp_assign (odi)) ?_
    refine cg (sp_assign (odb)) ?_
    refine cg (sp_assign (od rfl)) ?_
    refine sn fun a w hS => ?_
    refine et ?_
    refine wp_ret ?_
    refine exit_thenR ?_
    cases h
    exact st_ret hS (run_results3 Tryz.results16 a w) (⟨_, rfl, hS.get rfl, hS.get rfl, hS.get rfl, trivial⟩)
  have h := ite_f hb h
  refine wp_skip ?_
  refine et ?_
  refine ws ?_
  refine ws ?_
  refine st_reg mixed (by kernel_rfl) hS ?_
  refine cg (sp_load ty3 (od rfl)) ?_
  refine cg (sp_lss (od rfl) (odi)) ?_
  refine mv rfl ?_
  refine sc (sgF rfl fun hG => sp_load ty3 (od rfl)) ?_
  refine sc (sgF rfl fun hG => sp_fieldAddr fd33_2 (od rfl)) ?_
  refine sc (sgF rfl fun hG => sp_load ty31 (odw rfl hG)) ?_
  refine sc (sgF rfl fun hG => sp_len Tryz.underlying31 (odw rfl hG)) ?_
  refine sc (sgF rfl fun hG => sp_geq (odw rfl hG) (odw rfl hG)) ?_
  refine cg (sp_pickOr (od rfl) fun hg => odw rfl (not_t hg)) ?_
  refine sn fun a w hS => ?_
  refine et ?_
  refine st_cond hS rfl (fun hb => ?_) (fun hb => ?_)
  · have h := ite_t hb h
    refine ws ?_
    refine st_reg mixed (by kernel_rfl) hS ?_
    refine cg (sp_assign (odi)) ?_
    refine cg (sp_assign (odb)) ?_
    refine cg (sp_assign (odi)) ?_
    refine sn fun a w hS => ?_
    refine et ?_
    refine wp_ret ?_
    refine exit_thenR ?_
    cases h
    exact st_ret hS (run_results3 Tryz.results16 a w) (⟨_, rfl, hS.get rfl, hS.get rfl, hS.get rfl, trivial⟩)
  have h := ite_f hb h
  refine wp_skip ?_
  refine et ?_
  refine ws ?_
  refine ws ?_
  obtain ⟨v_3, e_4, h⟩ := bind_some h
  refine st_reg mixed (by kernel_rfl) hS ?_
  refine cg (sp_load ty33 (od rfl)) ?_
  refine mv rfl ?_
  refine mv rfl ?_
  refine mv rfl ?_
  refine cg (sp_call en41 (f41_ok e_4) ⟨od rfl, od rfl, od rfl, od rfl, trivial⟩) ?_
  refine cg (sp_assign (od rfl)) ?_
  refine sn fun a w hS => ?_
  refine et ?_
  refine ws ?_
  refine st_reg mixed (by kernel_rfl) hS ?_
  refine mv rfl ?_
  refine cg (sp_neq (od rfl) (odi)) ?_
  refine sn fun a w hS => ?_
  refine et ?_
  refine st_cond hS rfl (fun hb => ?_) (fun hb => ?_)
  · have h := ite_t hb h
    refine ws ?_
    refine st_reg mixed (by kernel_rfl) hS ?_
    refine mv rfl ?_
    refine cg (sp_assign (odi)) ?_
    refine cg (sp_assign (odb)) ?_
    refine cg (sp_assign (od rfl)) ?_
    refine sn fun a w hS => ?_
    refine et ?_
    refine wp_ret ?_
    refine exit_thenR ?_
    cases h
    exact st_ret hS (run_results3 Tryz.results16 a w) (⟨_, rfl, hS.get rfl, hS.get rfl, hS.get rfl, trivial⟩)
  have h := ite_f hb h
  refine wp_skip ?_
  refine et ?_
  refine ws ?_
  obtain ⟨v_5, e_6, h⟩ := bind_some h
  refine l_start ?_
  refine s_c hS (sg (sp_load ty33 (od rfl))) rfl fun a w hS hM => ?_
  refine s_c hS (sg (sp_move (od rfl))) rfl fun a w hS hM => ?_
  refine s_c hS (sg (sp_move (od rfl))) rfl fun a w hS hM => ?_
  refine s_c hS (sg (sp_move (od rfl))) rfl fun a w hS hM => ?_
  refine s_c hS (sg (sp_call en32 (f32_ok e_6) ⟨od rfl, od rfl, od rfl, od rfl, trivial⟩)) rfl fun a w hS hM => ?_
  refine s_allocStore ze82 hS (od rfl) (fun k hk => by cases hk; rfl) rfl fun a w hS hM => ?_
  refine l_end ?_
  refine et ?_
  refine ws ?_
  obtain ⟨v_7, e_8, h⟩ := bind_some h
  refine l_start ?_
  refine s_c hS (sg (mk_fn80 (f := (fun x0 => M.f42 x0 p4 v_5)) (κs := [isA (α := Int) p4, isA (α := S_keeper_want) v_5]) ⟨fun _ _ _ _ h => h, fun _ _ _ _ h => h, trivial⟩ en42 ⟨od rfl, od rfl, trivial⟩ (fun _ _ h => f42_ok h))) rfl fun a w hS hM => ?_
  refine s_c hS (sg (bd82_0 (od rfl))) rfl fun a w hS hM => ?_
  refine s_c hS (sg (sp_load ty33 (od rfl))) rfl fun a w hS hM => ?_
  refine s_c hS (sg (sp_call en33 (f33_ok e_8) ⟨od rfl, od rfl, trivial⟩)) rfl fun a w hS hM => ?_
  refine s_allocStore ze79 hS (od rfl) (fun k hk => by cases hk; rfl) rfl fun a w hS hM => ?_
  refine l_end ?_
  refine et ?_
  refine ws ?_
  obtain ⟨v_9, e_10, h⟩ := bind_some h
  refine l_start ?_
  refine s_c hS (sg (mk_fn80 (f := (fun x0 => M.f43 x0 p4 v_5)) (κs := [isA (α := Int) p4, isA (α := S_keeper_want) v_5]) ⟨fun _ _ _ _ h => h, fun _ _ _ _ h => h, trivial⟩ en43 ⟨od rfl, od rfl, trivial⟩ (fun _ _ h => f43_ok h))) rfl fun a w hS hM => ?_
  refine s_c hS (sg (bd82_0 (od rfl))) rfl fun a w hS hM => ?_
  refine s_c hS (sg (sp_load ty33 (od rfl))) rfl fun a w hS hM => ?_
  refine s_c hS (sg (sp_call en33 (f33_ok e_10) ⟨od rfl, od rfl, trivial⟩)) rfl fun a w hS hM => ?_
  refine s_allocStore ze79 hS (od rfl) (fun k hk => by cases hk; rfl) rfl fun a w hS hM => ?_
  refine l_end ?_
  refine et ?_
  refine ws ?_
  refine ws ?_
  refine st_reg mixed (by kernel_rfl) hS ?_
  refine cg (sp_load ty79 (od rfl)) ?_
  refine cg (bd79_ ) ?_
  refine cg (sp_eqlS eq79 rfl eg79 rfl (od rfl) (od rfl)) ?_
  refine sn fun a w hS => ?_
  refine et ?_
  refine st_cond hS rfl (fun hb => ?_) (fun hb => ?_)
  · have h := ite_t hb h
    refine ws ?_
    refine st_reg mixed (by kernel_rfl) hS ?_
    refine cg (sp_assign (odi)) ?_
    refine cg (sp_assign (odb)) ?_
    refine cg (sp_assign (odi)) ?_
    refine sn fun a w hS => ?_
    refine et ?_
    refine wp_ret ?_
    refine exit_thenR ?_
    cases h
    exact st_ret hS (run_results3 Tryz.results16 a w) (⟨_, rfl, hS.get rfl, hS.get rfl, hS.get rfl, trivial⟩)
  have h := ite_f hb h
  refine wp_skip ?_
  refine et ?_
  refine ws ?_
  refine st_reg mixed (by kernel_rfl) hS ?_
  refine cg (sp_fieldAddr fd79_1 (od rfl)) ?_
  refine cg (sp_load ty3 (od rfl)) ?_
  refine cg (sp_fieldAddr fd79_1 (od rfl)) ?_
  refine cg (sp_load ty3 (od rfl)) ?_
  refine cg (sp_sub (od rfl) (od rfl)) ?_
  refine cg (sp_assign (od rfl)) ?_
  refine cg (sp_assign (odb)) ?_
  refine cg (sp_assign (odi)) ?_
  refine sn fun a w hS => ?_
  refine et ?_
  refine wp_ret ?_
  cases h
  exact st_ret hS (run_results3 Tryz.results16 a w) (⟨_, rfl, hS.get rfl, hS.get rfl, hS.get rfl, trivial⟩)

theorem f17_ok {fuel : Nat} {p0 : List (List (Vector Int 2))} {p1 : List (List (Vector Int 2))} {r : Bool} (h : M.f17 fuel p0 p1 = some r) : CallOK Tryz.prog 17 [isV p0, isV p1] (isV r) := by
  unfold M.f17 at h
  refine callS_of Tryz.func17 rfl Tryz.ntmps17 rfl fun F0 w0 a hS => ?_
  refine ws ?_
  refine st_reg mixed (by kernel_rfl) hS ?_
  refine cg (sp_assign (odb)) ?_
  refine sn fun a w hS => ?_
  refine et ?_
  refine ws ?_
  refine ws ?_
  refine st_reg mixed (by kernel_rfl) hS ?_
  refine mv rfl ?_
  refine cg (sp_len Tryz.underlying41 (od rfl)) ?_
  refine mv rfl ?_
  refine cg (sp_len Tryz.underlying41 (od rfl)) ?_
  refine cg (sp_neq (od rfl) (od rfl)) ?_
  refine sn fun a w hS => ?_
  refine et ?_
  refine st_cond hS rfl (fun hb => ?_) (fun hb => ?_)
  · have h := ite_t hb h
    refine ws ?_
    refine st_reg mixed (by kernel_rfl) hS ?_
    refine cg (sp_assign (odb)) ?_
    refine sn fun a w hS => ?_
    refine et ?_
    refine wp_ret ?_
    refine exit_thenR ?_
    cases h
    exact st_ret hS (run_results1 Tryz.results17 a w) (hS.get rfl)
  have h := ite_f hb h
  refine wp_skip ?_
  refine et ?_
  refine ws ?_
  refine ws ?_
  refine st_reg mixed (by kernel_rfl) hS ?_
  refine cg (sp_assign (odi)) ?_
  refine sn fun a w hS => ?_
  refine et ?_
  refine wp_block ?_
  obtain ⟨o_2, e_3, hr_4⟩ := bind_some h
  refine c_loop (fun K a w => ∃ s_1 : Int, loopM _ K s_1 = some o_2 ∧ St 53 F0 [] [(0, isV (α := List (List (Vector Int 2))) p0), (1, isV (α := List (List (Vector Int 2))) p1), (5, isV (α := Int) s_1)] w0 a w) ?_ ?_ ⟨_, e_3, hS.weak ⟨od rfl, od rfl, od rfl, trivial⟩⟩
  · rintro a w ⟨_, hk, _⟩; cases hk
  rintro K a w ⟨s_1, hF_2, hS⟩
  obtain ⟨o, h, hN_2, hL_2⟩ := loop_more hF_2
  refine ws ?_
  refine ws ?_
  refine st_reg mixed (by kernel_rfl) hS ?_
  refine mv rfl ?_
  refine mv rfl ?_
  refine cg (sp_len Tryz.underlying41 (od rfl)) ?_
  refine cg (sp_lss (od rfl) (od rfl)) ?_
  refine sn fun a w hS => ?_
  refine et ?_
  refine st_cond hS rfl (fun hb => ?_) (fun hb => ?_)
  · have h := ite_t hb h
    refine wp_skip ?_
    refine et ?_
    refine ws ?_
    refine wp_block ?_
    refine ws ?_
    refine ws ?_
    obtain ⟨v_5, e_6, h⟩ := bind_some h
    obtain ⟨v_7, e_8, h⟩ := bind_some h
    refine st_reg mixed (by kernel_rfl) hS ?_
    refine mv rfl ?_
    refine mv rfl ?_
    refine cg (sp_indexAddr sl41 (od rfl) (od rfl) e_6) ?_
    refine cg (sp_load ty53 (od rfl)) ?_
    refine cg (sp_len Tryz.underlying53 (od rfl)) ?_
    refine mv rfl ?_
    refine mv rfl ?_
    refine cg (sp_indexAddr sl41 (od rfl) (od rfl) e_8) ?_
    refine cg (sp_load ty53 (od rfl)) ?_
    refine cg (sp_len Tryz.underlying53 (od rfl)) ?_
    refine cg (sp_neq (od rfl) (od rfl)) ?_
    refine sn fun a w hS => ?_
    refine et ?_
    refine st_cond hS rfl (fun hb => ?_) (fun hb => ?_)
    · have h := ite_t hb h
      refine ws ?_
      refine st_reg mixed (by kernel_rfl) hS ?_
      refine cg (sp_assign (odb)) ?_
      refine sn fun a w hS => ?_
      refine et ?_
      refine wp_ret ?_
      refine exit_thenR ?_
      refine exit_blockR ?_
      refine exit_thenR ?_
      cases h
      obtain rfl := hL_2 _ rfl
      have h := (sum_inr hr_4)
      refine exit_thenR ?_
      refine exit_blockR ?_
      refine exit_thenR ?_
      cases h
      exact st_ret hS (run_results1 Tryz.results17 a w) (hS.get rfl)
    have h := ite_f hb h
    refine wp_skip ?_
    refine et ?_
    refine ws ?_
    refine st_reg mixed (by kernel_rfl) hS ?_
    refine cg (sp_assign (odi)) ?_
    refine sn fun a w hS => ?_
    refine et ?_
    refine wp_block ?_
    obtain ⟨o_10, e_11, hr_12⟩ := bind_some h
    refine c_loop (fun K a w => ∃ s_9 : Int, loopM _ K s_9 = some o_10 ∧ St 53 F0 [] [(0, isV (α := List (List (Vector Int 2))) p0), (1, isV (α := List (List (Vector Int 2))) p1), (5, isV (α := Int) s_1), (6, isV (α := Int) s_9)] w0 a w) ?_ ?_ ⟨_, e_11, hS.weak ⟨od rfl, od rfl, od rfl, od rfl, trivial⟩⟩
    · rintro a w ⟨_, hk, _⟩; cases hk
    rintro K a w ⟨s_9, hF_10, hS⟩
    obtain ⟨o, h, hN_10, hL_10⟩ := loop_more hF_10
    refine ws ?_
    refine ws ?_
    obtain ⟨v_13, e_14, h⟩ := bind_some h
    refine st_reg mixed (by kernel_rfl) hS ?_
    refine mv rfl ?_
    refine mv rfl ?_
    refine mv rfl ?_
    refine cg (sp_indexAddr sl41 (od rfl) (od rfl) e_14) ?_
    refine cg (sp_load ty53 (od rfl)) ?_
    refine cg (sp_len Tryz.underlying53 (od rfl)) ?_
    refine cg (sp_lss (od rfl) (od rfl)) ?_
    refine sn fun a w hS => ?_
    refine et ?_
    refine st_cond hS rfl (fun hb => ?_) (fun hb => ?_)
    · have h := ite_t hb h
      refine wp_skip ?_
      refine et ?_
      refine ws ?_
      refine wp_block ?_
      refine ws ?_
      obtain ⟨v_15, e_16, h⟩ := bind_some h
      obtain ⟨v_17, e_18, h⟩ := bind_some h
      obtain ⟨v_19, e_20, h⟩ := bind_some h
      obtain ⟨v_21, e_22, h⟩ := bind_some h
      refine st_reg mixed (by kernel_rfl) hS ?_
      refine mv rfl ?_
      refine mv rfl ?_
      refine cg (sp_indexAddr sl41 (od rfl) (od rfl) e_16) ?_
      refine cg (sp_load ty53 (od rfl)) ?_
      refine mv rfl ?_
      refine cg (sp_indexAddr sl53 (od rfl) (od rfl) e_18) ?_
      refine cg (sp_load ty52 (od rfl)) ?_
      refine mv rfl ?_
      refine mv rfl ?_
      refine cg (sp_indexAddr sl41 (od rfl) (od rfl) e_20) ?_
      refine cg (sp_load ty53 (od rfl)) ?_
      refine mv rfl ?_
      refine cg (sp_indexAddr sl53 (od rfl) (od rfl) e_22) ?_
      refine cg (sp_load ty52 (od rfl)) ?_
      refine cg (sp_neqS eq52 rfl eg52 rfl (od rfl) (od rfl)) ?_
      refine sn fun a w hS => ?_
      refine et ?_
      refine st_cond hS rfl (fun hb => ?_) (fun hb => ?_)
      · have h := ite_t hb h
        refine ws ?_
        refine st_reg mixed (by kernel_rfl) hS ?_
        refine cg (sp_assign (odb)) ?_
        refine sn fun a w hS => ?_
        refine et ?_
        refine wp_ret ?_
        refine exit_blockR ?_
        refine exit_thenR ?_
        cases h
        obtain rfl := hL_10 _ rfl
        have h := (sum_inr hr_12)
        refine exit_thenR ?_
        refine exit_blockR ?_
        refine exit_blockR ?_
        refine exit_thenR ?_
        cases h
        obtain rfl := hL_2 _ rfl
        have h := (sum_inr hr_4)
        refine exit_thenR ?_
        refine exit_blockR ?_
        refine exit_thenR ?_
        cases h
        exact st_ret hS (run_results1 Tryz.results17 a w) (hS.get rfl)
      have h := ite_f hb h
      refine wp_skip ?_
      refine exit_block ?_
      refine et ?_
      refine st_reg mixed (by kernel_rfl) hS ?_
      refine mv rfl ?_
      refine cg (sp_add (od rfl) (odi)) ?_
      refine cg (sp_assign (od rfl)) ?_
      refine sn fun a w hS => ?_
      cases h
      exact ⟨_, hN_10 _ rfl, hS.weak ⟨od rfl, od rfl, od rfl, od rfl, trivial⟩⟩
    have h := ite_f hb h
    refine wp_exit ?_
    refine exit_thenE ?_
    cases h
    obtain rfl := hL_10 _ rfl
    have h := (sum_inl hr_12)
    refine exit_thenE ?_
    refine exit_here ?_
    refine exit_block ?_
    refine et ?_
    refine st_reg mixed (by kernel_rfl) hS ?_
    refine mv rfl ?_
    refine cg (sp_add (od rfl) (odi)) ?_
    refine cg (sp_assign (od rfl)) ?_
    refine sn fun a w hS => ?_
    cases h
    exact ⟨_, hN_2 _ rfl, hS.weak ⟨od rfl, od rfl, od rfl, trivial⟩⟩
  have h := ite_f hb h
  refine wp_exit ?_
  refine exit_thenE ?_
  cases h
  obtain rfl := hL_2 _ rfl
  have h := (sum_inl hr_4)
  refine exit_thenE ?_
  refine exit_here ?_
  refine et ?_
  refine ws ?_
  refine st_reg mixed (by kernel_rfl) hS ?_
  refine cg (sp_assign (odb)) ?_
  refine sn fun a w hS => ?_
  refine et ?_
  refine wp_ret ?_
  cases h
  exact st_ret hS (run_results1 Tryz.results17 a w) (hS.get rfl)

theorem f18_ok {p0 : S_api_Market} {p1 : Int} {p2 : Int} {p3 : Int} {r : (List Int) × Int} (h : M.f18 p0 p1 p2 p3 = some r) : CallOK Tryz.prog 18 [isV p0, isV p1, isV p2, isV p3] (isTup [isV r.1, isV r.2]) := by
  unfold M.f18 at h
  refine callS_of Tryz.func18 rfl Tryz.ntmps18 rfl fun F0 w0 a hS => ?_
  refine ws ?_
  refine st_reg mixed (by kernel_rfl) hS ?_
  refine cg (sp_box (od rfl)) ?_
  refine cg (sp_assign (odnil (α := Int))) ?_
  refine cg (sp_assign (odi)) ?_
  refine sn fun a w hS => ?_
  refine et ?_
  refine ws ?_
  refine ws ?_
  obtain ⟨v_1, e_2, h⟩ := bind_some h
  refine st_reg mixed (by kernel_rfl) hS ?_
  refine cg (sp_load ty33 (od rfl)) ?_
  refine mv rfl ?_
  refine mv rfl ?_
  refine mv rfl ?_
  refine cg (sp_call en41 (f41_ok e_2) ⟨od rfl, od rfl, od rfl, od rfl, trivial⟩) ?_
  refine cg (sp_assign (od rfl)) ?_
  refine sn fun a w hS => ?_
  refine et ?_
  refine ws ?_
  refine st_reg mixed (by kernel_rfl) hS ?_
  refine mv rfl ?_
  refine cg (sp_neq (od rfl) (odi)) ?_
  refine sn fun a w hS => ?_
  refine et ?_
  refine st_cond hS rfl (fun hb => ?_) (fun hb => ?_)
  · have h := ite_t hb h
    refine ws ?_
    refine st_reg mixed (by kernel_rfl) hS ?_
    refine mv rfl ?_
    refine cg (sp_assign (odnil (α := Int))) ?_
    refine cg (sp_assign (od rfl)) ?_
    refine sn fun a w hS => ?_
    refine et ?_
    refine wp_ret ?_
    refine exit_thenR ?_
    cases h
    exact st_ret hS (run_results2 Tryz.results18 a w) (⟨_, rfl, hS.get rfl, hS.get rfl, trivial⟩)
  have h := ite_f hb h
  refine wp_skip ?_
  refine et ?_
  refine ws ?_
  obtain ⟨v_3, e_4, h⟩ := bind_some h
  refine l_start ?_
  refine s_c hS (sg (sp_load ty33 (od rfl))) rfl fun a w hS hM => ?_
  refine s_c hS (sg (sp_move (od rfl))) rfl fun a w hS hM => ?_
  refine s_c hS (sg (sp_move (od rfl))) rfl fun a w hS hM => ?_
  refine s_c hS (sg (sp_move (od rfl))) rfl fun a w hS hM => ?_
  refine s_c hS (sg (sp_call en32 (f32_ok e_4) ⟨od rfl, od rfl, od rfl, od rfl, trivial⟩)) rfl fun a w hS hM => ?_
  refine s_allocStore ze82 hS (od rfl) (fun k hk => by cases hk; rfl) rfl fun a w hS hM => ?_
  refine l_end ?_
  refine et ?_
  refine ws ?_
  refine st_reg mixed (by kernel_rfl) hS ?_
  refine cg (sp_assign (φ := Pr.is (.slice none 0 0)) (odc fun _ => rfl)) ?_
  refine sn fun a w hS => ?_
  have hS := st_nil (α := Int) 3 hS
  have hS : St _ F0 [Item.sl (α := Int) 3 (.slice none 0 0) ([] : List Int)] _ w0 _ _ := hS
  refine et ?_
  refine ws ?_
  refine ws ?_
  refine st_reg mixed (by kernel_rfl) hS ?_
  refine cg (sp_fieldAddr fd33_2 (od rfl)) ?_
  refine cg (sp_load ty31 (od rfl)) ?_
  refine cg (sp_len Tryz.underlying31 (od rfl)) ?_
  refine cg (sp_move (odi)) ?_
  refine sn fun a w hS => ?_
  refine et ?_
  refine wp_block ?_
  obtain ⟨o_8, e_9, hr_10⟩ := bind_some h
  refine c_loop (fun K a w => ∃ k i_5 s_7, ∃ u_11 : Value, K = k + 1 ∧ ForT _ _ _ o_8 k i_5 s_7 ∧ St 48 F0 [Item.sl (α := Int) 3 u_11 s_7] [(4, isA (α := S_api_Market) p0), (11, isA (α := S_keeper_want) v_3), (12, Pr.is u_11), (29, isV (α := Int) (p0.2.2.length : Int)), (30, isV (α := Int) i_5)] w0 a w) ?_ ?_ ⟨_, _, _, (.slice none 0 0), rfl, fors_init e_9, hS.weak ⟨od rfl, od rfl, od rfl, od rfl, od rfl, trivial⟩⟩
  · rintro a w ⟨_, _, _, _, hk, _⟩; cases hk
  rintro K a w ⟨k_8, i_5, s_7, u_11, hk, hF_8, hS⟩
  obtain rfl := Nat.succ.inj hk
  refine ws ?_
  refine st_reg mixed (by kernel_rfl) hS ?_
  refine cg (sp_lss (od rfl) (od rfl)) ?_
  refine sn fun a w hS => ?_
  refine et ?_
  refine ws ?_
  refine st_cond hS rfl (fun hb => ?_) (fun hb => ?_)
  · refine wp_skip ?_
    refine et ?_
    obtain ⟨k_8, s', rfl, h, hF_8, hw_8⟩ := fors_more hF_8 hb
    refine ws ?_
    refine wp_block ?_
    refine ws ?_
    refine st_reg mixed (by kernel_rfl) hS ?_
    refine mv rfl ?_
    refine cg (sp_assign (od rfl)) ?_
    refine sn fun a w hS => ?_
    refine et ?_
    refine ws ?_
    obtain ⟨v_12, e_13, h⟩ := bind_some h
    obtain ⟨v_14, e_15, h⟩ := bind_some h
    obtain ⟨v_16, e_17, h⟩ := bind_some h
    refine st_reg mixed (by kernel_rfl) hS ?_
    refine cg (sp_fieldAddr fd82_0 (od rfl)) ?_
    refine cg (sp_load ty80 (od rfl)) ?_
    refine cg (sp_load ty33 (od rfl)) ?_
    refine cg (sp_call en44 (f44_ok e_13) ⟨od rfl, trivial⟩) ?_
    refine mv rfl ?_
    refine cg (sp_shl (odi) (od rfl) e_15) ?_
    refine cg (sp_andNot (od rfl) (od rfl)) ?_
    refine cg (sp_callV (od_fn80 (od rfl)) ⟨od rfl, trivial⟩ e_17) ?_
    refine cg (sp_not (od rfl)) ?_
    refine sn fun a w hS => ?_
    refine et ?_
    obtain ⟨y_19, hj_18, h⟩ := bind_some h
    refine wp_mono (Q := fun e a w => e = Exit.normal ∧ ∃ u_20 : Value, St 48 F0 [Item.sl (α := Int) 3 u_20 y_19] [(4, isA (α := S_api_Market) p0), (11, isA (α := S_keeper_want) v_3), (12, Pr.is u_20), (29, isV (α := Int) (p0.2.2.length : Int)), (30, isV (α := Int) i_5)] w0 a w) ?_ ?_
    · refine st_cond hS rfl (fun hb => ?_) (fun hb => ?_)
      · have h := ite_t hb hj_18
        obtain ⟨z_21, e_22, h⟩ := bind_some h
        refine l_start ?_
        refine s_c hS (sg (sp_move (od rfl))) rfl fun a w hS hM => ?_
        refine s_c hS (sg (sp_move (od rfl))) rfl fun a w hS hM => ?_
        refine s_c hS (sg (sp_buildSlice [.tmp 43] ([i_5] : List Int) sl37 ze3 rfl rfl rfl rfl ⟨od rfl, trivial⟩)) rfl fun a w hS hM => ?_
        refine s_append (k := 0) (Δ := [(4, isA (α := S_api_Market) p0), (11, isA (α := S_keeper_want) v_3), (29, isV (α := Int) (p0.2.2.length : Int)), (30, isV (α := Int) i_5), (42, Pr.is u_11), (44, isV (α := List Int) ([i_5] : List Int))]) sl37 ze3 hS rfl ⟨od rfl, od rfl, od rfl, od rfl, od rfl, od rfl, trivial⟩ ⟨fun _ _ _ _ h => h, fun _ _ _ _ h => h, fun _ _ _ _ h => h, fun _ _ _ _ h => h, fun _ _ _ _ h => h, fun _ _ _ _ h => h, trivial⟩ (od rfl) (od rfl) e_22 rfl fun a w u_23 hS hM => ?_
        have hS : St _ F0 [Item.sl (α := Int) 3 u_23 z_21] _ w0 _ _ := hS
        refine s_c hS (sg (sp_assign (od rfl))) rfl fun a w hS hM => ?_
        refine l_end ?_
        cases h
        exact ⟨rfl, u_23, hS.weak ⟨od rfl, od rfl, od rfl, od rfl, od rfl, trivial⟩⟩
      have h := ite_f hb hj_18
      refine wp_skip ?_
      cases h
      exact ⟨rfl, u_11, hS.weak ⟨od rfl, od rfl, od rfl, od rfl, od rfl, trivial⟩⟩
    rintro e a w ⟨rfl, u_20, hS⟩
    refine exit_block ?_
    refine et ?_
    refine st_reg mixed (by kernel_rfl) hS ?_
    refine cg (sp_add (od rfl) (odi)) ?_
    refine mv rfl ?_
    refine sn fun a w hS => ?_
    cases h
    exact ⟨k_8, _, _, u_20, rfl, hF_8, hS.weak ⟨od rfl, od rfl, od rfl, od rfl, od (congrArg (fun z => some (isV (α := Int) z)) hw_8), trivial⟩⟩
  refine wp_exit ?_
  obtain rfl := (fors_done hF_8 hb).symm
  have h := hr_10
  refine exit_thenE ?_
  refine exit_thenE ?_
  refine exit_here ?_
  refine et ?_
  refine ws ?_
  refine st_reg mixed (by kernel_rfl) hS ?_
  refine mv rfl ?_
  refine cg (sp_assign (od rfl)) ?_
  refine cg (sp_assign (odi)) ?_
  refine sn fun a w hS => ?_
  refine et ?_
  refine wp_ret ?_
  have hS0 := hS
  have hS := st_freeze 0 8 hS rfl rfl
  have hS := st_also (t := 8) (q := 12) hS0 hS rfl rfl rfl
  have hS := st_also (t := 8) (q := 47) hS0 hS rfl rfl rfl
  cases h
  exact st_ret hS (run_results2 Tryz.results18 a w) (⟨_, rfl, hS.get rfl, hS.get rfl, trivial⟩)

theorem f19_ok {p0 : S_api_Market} {p1 : Int} {p2 : Int} {p3 : Int} {r : Int × Bool × Int} (h : M.f19 p0 p1 p2 p3 = some r) : CallOK Tryz.prog 19 [isV p0, isV p1, isV p2, isV p3] (isTup [isV r.1, isV r.2.1, isV r.2.2]) := by
  unfold M.f19 at h
  refine callS_of Tryz.func19 rfl Tryz.ntmps19 rfl fun F0 w0 a hS => ?_
  refine ws ?_
  refine st_reg mixed (by kernel_rfl) hS ?_
  refine cg (sp_box (od rfl)) ?_
  refine cg (sp_assign (odi)) ?_
  refine cg (sp_assign (odb)) ?_
  refine cg (sp_assign (odi)) ?_
  refine sn fun a w hS => ?_
  refine et ?_
  refine ws ?_
  refine ws ?_
  obtain ⟨v_1, e_2, h⟩ := bind_some h
  refine st_reg mixed (by kernel_rfl) hS ?_
  refine cg (sp_load ty33 (od rfl)) ?_
  refine mv rfl ?_
  refine mv rfl ?_
  refine cg (sp_buildSlice [.tmp 15, .tmp 16] ([p1, p2] : List Int) sl37 ze3 rfl rfl rfl rfl ⟨od rfl, od rfl, trivial⟩) ?_
  refine mv rfl ?_
  refine cg (sp_buildSlice [.tmp 18] ([p3] : List Int) sl37 ze3 rfl rfl rfl rfl ⟨od rfl, trivial⟩) ?_
  refine cg (bd72_01 (od rfl) (od rfl)) ?_
  refine cg (sp_call en29 (f29_ok e_2) ⟨od rfl, odnil (α := Int), od rfl, trivial⟩) ?_
  refine cg (sp_assign (od rfl)) ?_
  refine sn fun a w hS => ?_
  refine et ?_
  refine ws ?_
  refine st_reg mixed (by kernel_rfl) hS ?_
  refine mv rfl ?_
  refine cg (sp_neq (od rfl) (odi)) ?_
  refine sn fun a w hS => ?_
  refine et ?_
  refine st_cond hS rfl (fun hb => ?_) (fun hb => ?_)
  · have h := ite_t hb h
    refine ws ?_
    refine st_reg mixed (by kernel_rfl) hS ?_
    refine mv rfl ?_
    refine cg (sp_assign (odi)) ?_
    refine cg (sp_assign (odb)) ?_
    refine cg (sp_assign (od rfl)) ?_
    refine sn fun a w hS => ?_
    refine et ?_
    refine wp_ret ?_
    refine exit_thenR ?_
    cases h
    exact st_ret hS (run_results3 Tryz.results19 a w) (⟨_, rfl, hS.get rfl, hS.get rfl, hS.get rfl, trivial⟩)
  have h := ite_f hb h
  refine wp_skip ?_
  refine et ?_
  refine ws ?_
  refine st_reg mixed (by kernel_rfl) hS ?_
  refine cg (sp_assign (odi)) ?_
  refine sn fun a w hS => ?_
  refine et ?_
  refine ws ?_
  refine ws ?_
  obtain ⟨v_3, e_4, h⟩ := bind_some h
  refine st_reg mixed (by kernel_rfl) hS ?_
  refine cg (sp_fieldAddr fd33_2 (od rfl)) ?_
  refine cg (sp_load ty31 (od rfl)) ?_
  refine cg (sp_len Tryz.underlying31 (od rfl)) ?_
  refine cg (sp_shl (odi) (od rfl) e_4) ?_
  refine cg (sp_move (odi)) ?_
  refine sn fun a w hS => ?_
  refine et ?_
  refine wp_block ?_
  obtain ⟨o_8, e_9, hr_10⟩ := bind_some h
  refine c_loop (fun K a w => ∃ k i_5 s_7, K = k + 1 ∧ ForT _ _ _ o_8 k i_5 s_7 ∧ St 52 F0 [] [(1, isV (α := Int) p1), (2, isV (α := Int) p2), (3, isV (α := Int) p3), (4, isA (α := S_api_Market) p0), (12, isV (α := Int) s_7), (28, isV (α := Int) v_3), (29, isV (α := Int) i_5)] w0 a w) ?_ ?_ ⟨_, _, _, rfl, fors_init e_9, hS.weak ⟨od rfl, od rfl, od rfl, od rfl, od rfl, od rfl, od rfl, trivial⟩⟩
  · rintro a w ⟨_, _, _, hk, _⟩; cases hk
  rintro K a w ⟨k_8, i_5, s_7, hk, hF_8, hS⟩
  obtain rfl := Nat.succ.inj hk
  refine ws ?_
  refine st_reg mixed (by kernel_rfl) hS ?_
  refine cg (sp_lss (od rfl) (od rfl)) ?_
  refine sn fun a w hS => ?_
  refine et ?_
  refine ws ?_
  refine st_cond hS rfl (fun hb => ?_) (fun hb => ?_)
  · refine wp_skip ?_
    refine et ?_
    obtain ⟨k_8, s', rfl, h, hF_8, hw_8⟩ := fors_more hF_8 hb
    refine ws ?_
    refine wp_block ?_
    refine ws ?_
    refine st_reg mixed (by kernel_rfl) hS ?_
    refine mv rfl ?_
    refine cg (sp_assign (od rfl)) ?_
    refine sn fun a w hS => ?_
    refine et ?_
    refine ws ?_
    obtain ⟨v_11, e_12, h⟩ := bind_some h
    refine st_reg mixed (by kernel_rfl) hS ?_
    refine mv rfl ?_
    refine cg (sp_load ty33 (od rfl)) ?_
    refine cg (sp_call en45 (f45_ok e_12) ⟨od rfl, od rfl, trivial⟩) ?_
    refine mv rfl ?_
    refine cg (sp_leq (od rfl) (od rfl)) ?_
    refine sn fun a w hS => ?_
    refine et ?_
    obtain ⟨y_14, hj_13, h⟩ := bind_some h
    refine wp_mono (Q := fun e a w => e = Exit.normal ∧ St 52 F0 [] [(1, isV (α := Int) p1), (2, isV (α := Int) p2), (3, isV (α := Int) p3), (4, isA (α := S_api_Market) p0), (12, isV (α := Int) y_14), (28, isV (α := Int) v_3), (29, isV (α := Int) i_5)] w0 a w) ?_ ?_
    · refine st_cond hS rfl (fun hb => ?_) (fun hb => ?_)
      · have h := ite_t hb hj_13
        obtain ⟨v_15, e_16, h⟩ := bind_some h
        obtain ⟨v_17, e_18, h⟩ := bind_some h
        obtain ⟨v_19, e_20, h⟩ := bind_some h
        refine st_reg mixed (by kernel_rfl) hS ?_
        refine mv rfl ?_
        refine cg (sp_load ty33 (od rfl)) ?_
        refine mv rfl ?_
        refine cg (sp_call en30 (f30_ok e_16) ⟨od rfl, od rfl, trivial⟩) ?_
        refine mv rfl ?_
        refine cg (sp_indexAddr sl74 (od rfl) (od rfl) e_18) ?_
        refine cg (sp_load ty37 (od rfl)) ?_
        refine mv rfl ?_
        refine cg (sp_indexAddr sl37 (od rfl) (od rfl) e_20) ?_
        refine cg (sp_load ty3 (od rfl)) ?_
        refine cg (sp_min (od rfl) (od rfl)) ?_
        refine cg (sp_assign (od rfl)) ?_
        refine sn fun a w hS => ?_
        cases h
        exact ⟨rfl, hS.weak ⟨od rfl, od rfl, od rfl, od rfl, od rfl, od rfl, od rfl, trivial⟩⟩
      have h := ite_f hb hj_13
      refine wp_skip ?_
      cases h
      exact ⟨rfl, hS.weak ⟨od rfl, od rfl, od rfl, od rfl, od rfl, od rfl, od rfl, trivial⟩⟩
    rintro e a w ⟨rfl, hS⟩
    refine exit_block ?_
    refine et ?_
    refine st_reg mixed (by kernel_rfl) hS ?_
    refine cg (sp_add (od rfl) (odi)) ?_
    refine mv rfl ?_
    refine sn fun a w hS => ?_
    cases h
    exact ⟨k_8, _, _, rfl, hF_8, hS.weak ⟨od rfl, od rfl, od rfl, od rfl, od rfl, od rfl, od (congrArg (fun z => some (isV (α := Int) z)) hw_8), trivial⟩⟩
  refine wp_exit ?_
  obtain rfl := (fors_done hF_8 hb).symm
  have h := hr_10
  refine exit_thenE ?_
  refine exit_thenE ?_
  refine exit_here ?_
  refine et ?_
  refine ws ?_
  refine ws ?_
  refine st_reg mixed (by kernel_rfl) hS ?_
  refine mv rfl ?_
  refine cg (sp_geq (od rfl) (odi)) ?_
  refine sn fun a w hS => ?_
  refine et ?_
  refine st_cond hS rfl (fun hb => ?_) (fun hb => ?_)
  · have h := ite_t hb h
    refine ws ?_
    refine st_reg mixed (by kernel_rfl) hS ?_
    refine cg (sp_assign (odi)) ?_
    refine cg (sp_assign (odb)) ?_
    refine cg (sp_assign (odi)) ?_
    refine sn fun a w hS => ?_
    refine et ?_
    refine wp_ret ?_
    refine exit_thenR ?_
    cases h
    exact st_ret hS (run_results3 Tryz.results19 a w) (⟨_, rfl, hS.get rfl, hS.get rfl, hS.get rfl, trivial⟩)
  have h := ite_f hb h
  refine wp_skip ?_
  refine et ?_
  refine ws ?_
  refine st_reg mixed (by kernel_rfl) hS ?_
  refine mv rfl ?_
  refine cg (sp_assign (od rfl)) ?_
  refine cg (sp_assign (odb)) ?_
  refine cg (sp_assign (odi)) ?_
  refine sn fun a w hS => ?_
  refine et ?_
  refine wp_ret ?_
  cases h
  exact st_ret hS (run_results3 Tryz.results19 a w) (⟨_, rfl, hS.get rfl, hS.get rfl, hS.get rfl, trivial⟩)

end Go.Proofs.YtjlagmcdoobimaaGreatDoor
