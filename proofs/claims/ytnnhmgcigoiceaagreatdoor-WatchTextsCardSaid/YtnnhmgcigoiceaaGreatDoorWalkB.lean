/-
  What is proved: each Go function named here returns what its model tells, and changes nothing that was there; where the model tells something.
-/
import Derived.Test.YtnnhmgcigoiceaaGreatDoorWalkA
import Derived.Test.YtnnhmgcigoiceaaGreatDoorModelB
set_option linter.unusedVariables false
set_option maxRecDepth 100000
namespace Go.Proofs.YtnnhmgcigoiceaaGreatDoor
open Go Go.RowKit Go.Proofs.YtnnhmgcigoiceaaGreatDoor.Wh

theorem f77_ok {p0 : Int} {c0 : S_api_Roster} {r : Bool} (h : M.f77 p0 c0 = some r) : CallOK Tryz.prog 77 [isV p0, isA c0] (isV r) := by
  unfold M.f77 at h
  refine callS_of Tryz.func77 rfl Tryz.ntmps77 rfl fun F0 w0 a hS => ?_
  refine ws ?_
  refine st_reg mixed (by kernel_rfl) hS ?_
  refine cg (sp_assign (odb)) ?_
  refine sn fun a w hS => ?_
  refine et ?_
  refine ws ?_
  obtain ⟨v_1, e_2, h⟩ := bind_some h
  refine st_reg mixed (by kernel_rfl) hS ?_
  refine mv rfl ?_
  refine cg (sp_fieldAddr fd34_4 (od rfl)) ?_
  refine cg (sp_load ty32 (od rfl)) ?_
  refine cg (sp_len Tryz.underlying32 (od rfl)) ?_
  refine cg (sp_sub (od rfl) (odi)) ?_
  refine cg (sp_call en54 (f54_ok e_2) ⟨od rfl, odi, od rfl, trivial⟩) ?_
  refine cg (sp_not (od rfl)) ?_
  refine cg (sp_assign (od rfl)) ?_
  refine sn fun a w hS => ?_
  refine et ?_
  refine wp_ret ?_
  cases h
  exact st_ret hS (run_results1 Tryz.results77 a w) (hS.get rfl)

theorem f97_ok {p0 : List Int} {p1 : (Int → Option Bool)} {r : Int} (h : M.f97 p0 p1 = some r) : CallOK Tryz.prog 97 [isV p0, isV p1] (isV r) := by
  unfold M.f97 at h
  refine callS_of Tryz.func97 rfl Tryz.ntmps97 rfl fun F0 w0 a hS => ?_
  refine ws ?_
  refine st_reg mixed (by kernel_rfl) hS ?_
  refine cg (sp_assign (odi)) ?_
  refine sn fun a w hS => ?_
  refine et ?_
  refine ws ?_
  refine ws ?_
  refine st_reg mixed (by kernel_rfl) hS ?_
  refine mv rfl ?_
  refine cg (sp_len Tryz.underlying39 (od rfl)) ?_
  refine cg (sp_move (odi)) ?_
  refine sn fun a w hS => ?_
  refine et ?_
  refine wp_block ?_
  obtain ⟨o_4, e_5, hr_6⟩ := bind_some h
  refine c_loop (fun K a w => ∃ k i_1 s_3, K = k + 1 ∧ ForI _ _ _ o_4 k i_1 s_3 ∧ St 19 F0 [] [(0, isV (α := List Int) p0), (1, isV (α := (Int → Option Bool)) p1), (7, isV (α := Int) (p0.length : Int)), (8, isV (α := Int) i_1)] w0 a w) ?_ ?_ ⟨_, _, _, rfl, for_init e_5, hS.weak ⟨od rfl, od rfl, od rfl, od rfl, trivial⟩⟩
  · rintro a w ⟨_, _, _, hk, _⟩; cases hk
  rintro K a w ⟨k_4, i_1, s_3, hk, hF_4, hS⟩
  obtain rfl := Nat.succ.inj hk
  refine ws ?_
  refine st_reg mixed (by kernel_rfl) hS ?_
  refine cg (sp_lss (od rfl) (od rfl)) ?_
  refine sn fun a w hS => ?_
  refine et ?_
  refine ws ?_
  refine st_cond hS rfl (fun hb => ?_) (fun hb => ?_)
  · refine wp_skip ?_
    refine et ?_
    obtain ⟨k_4, o, rfl, h, hN_4, hL_4, hw_4⟩ := for_more hF_4 hb
    refine ws ?_
    refine wp_block ?_
    refine ws ?_
    refine st_reg mixed (by kernel_rfl) hS ?_
    refine mv rfl ?_
    refine cg (sp_assign (od rfl)) ?_
    refine sn fun a w hS => ?_
    refine et ?_
    refine ws ?_
    obtain ⟨v_7, e_8, h⟩ := bind_some h
    obtain ⟨v_9, e_10, h⟩ := bind_some h
    refine st_reg mixed (by kernel_rfl) hS ?_
    refine mv rfl ?_
    refine mv rfl ?_
    refine mv rfl ?_
    refine cg (sp_indexAddr sl39 (od rfl) (od rfl) e_8) ?_
    refine cg (sp_load ty3 (od rfl)) ?_
    refine cg (sp_callV (od_fn87 (od rfl)) ⟨od rfl, trivial⟩ e_10) ?_
    refine sn fun a w hS => ?_
    refine et ?_
    refine st_cond hS rfl (fun hb => ?_) (fun hb => ?_)
    · have h := ite_t hb h
      refine ws ?_
      refine st_reg mixed (by kernel_rfl) hS ?_
      refine mv rfl ?_
      refine cg (sp_assign (od rfl)) ?_
      refine sn fun a w hS => ?_
      refine et ?_
      refine wp_ret ?_
      refine exit_blockR ?_
      refine exit_thenR ?_
      cases h
      obtain rfl := hL_4 _ rfl
      have h := (elim_leave hr_6)
      refine exit_thenR ?_
      refine exit_blockR ?_
      refine exit_thenR ?_
      cases h
      exact st_ret hS (run_results1 Tryz.results97 a w) (hS.get rfl)
    have h := ite_f hb h
    refine wp_skip ?_
    refine exit_block ?_
    refine et ?_
    refine st_reg mixed (by kernel_rfl) hS ?_
    refine cg (sp_add (od rfl) (odi)) ?_
    refine mv rfl ?_
    refine sn fun a w hS => ?_
    cases h
    exact ⟨k_4, _, _, rfl, hN_4 _ rfl, hS.weak ⟨od rfl, od rfl, od rfl, od (congrArg (fun z => some (isV (α := Int) z)) hw_4), trivial⟩⟩
  refine wp_exit ?_
  obtain rfl := for_done hF_4 hb
  have h := elim_again hr_6
  refine exit_thenE ?_
  refine exit_thenE ?_
  refine exit_here ?_
  refine et ?_
  refine ws ?_
  refine st_reg mixed (by kernel_rfl) hS ?_
  refine cg (sp_assign (odi)) ?_
  refine sn fun a w hS => ?_
  refine et ?_
  refine wp_ret ?_
  cases h
  exact st_ret hS (run_results1 Tryz.results97 a w) (hS.get rfl)

theorem f55_ok {p0 : List Int} {p1 : (Int → Option Bool)} {r : Bool} (h : M.f55 p0 p1 = some r) : CallOK Tryz.prog 55 [isV p0, isV p1] (isV r) := by
  unfold M.f55 at h
  refine callS_of Tryz.func55 rfl Tryz.ntmps55 rfl fun F0 w0 a hS => ?_
  refine ws ?_
  refine st_reg mixed (by kernel_rfl) hS ?_
  refine cg (sp_assign (odb)) ?_
  refine sn fun a w hS => ?_
  refine et ?_
  refine ws ?_
  obtain ⟨v_1, e_2, h⟩ := bind_some h
  refine st_reg mixed (by kernel_rfl) hS ?_
  refine mv rfl ?_
  refine mv rfl ?_
  refine cg (sp_call en97 (f97_ok e_2) ⟨od rfl, od rfl, trivial⟩) ?_
  refine cg (sp_geq (od rfl) (odi)) ?_
  refine cg (sp_assign (od rfl)) ?_
  refine sn fun a w hS => ?_
  refine et ?_
  refine wp_ret ?_
  cases h
  exact st_ret hS (run_results1 Tryz.results55 a w) (hS.get rfl)

theorem f32_ok {p0 : S_api_Roster} {p1 : List Int} {r : Int} (h : M.f32 p0 p1 = some r) : CallOK Tryz.prog 32 [isV p0, isV p1] (isV r) := by
  unfold M.f32 at h
  refine callS_of Tryz.func32 rfl Tryz.ntmps32 rfl fun F0 w0 a hS => ?_
  refine ws ?_
  refine st_reg mixed (by kernel_rfl) hS ?_
  refine cg (sp_box (od rfl)) ?_
  refine cg (sp_assign (odi)) ?_
  refine sn fun a w hS => ?_
  refine et ?_
  refine ws ?_
  refine ws ?_
  obtain ⟨v_1, e_2, h⟩ := bind_some h
  refine st_reg mixed (by kernel_rfl) hS ?_
  refine cg (sp_load ty34 (od rfl)) ?_
  refine cg (sp_call en25 (f25_ok e_2) ⟨od rfl, trivial⟩) ?_
  refine cg (sp_assign (od rfl)) ?_
  refine sn fun a w hS => ?_
  refine et ?_
  refine ws ?_
  refine st_reg mixed (by kernel_rfl) hS ?_
  refine mv rfl ?_
  refine cg (sp_neq (od rfl) (odi)) ?_
  refine sn fun a w hS => ?_
  refine et ?_
  refine st_cond hS rfl (fun hb => ?_) (fun hb => ?_)
  · have h := ite_t hb h
    refine ws ?_
    refine st_reg mixed (by kernel_rfl) hS ?_
    refine mv rfl ?_
    refine cg (sp_assign (od rfl)) ?_
    refine sn fun a w hS => ?_
    refine et ?_
    refine wp_ret ?_
    refine exit_thenR ?_
    cases h
    exact st_ret hS (run_results1 Tryz.results32 a w) (hS.get rfl)
  have h := ite_f hb h
  refine wp_skip ?_
  refine et ?_
  refine ws ?_
  refine ws ?_
  obtain ⟨v_3, e_4, h⟩ := bind_some h
  refine st_reg mixed (by kernel_rfl) hS ?_
  refine mv rfl ?_
  refine cg (mk_fn87 (f := (fun x0 => M.f77 x0 p0)) (κs := [isA (α := S_api_Roster) p0]) ⟨fun _ _ _ _ h => h, trivial⟩ en77 ⟨od rfl, trivial⟩ (fun _ _ h => f77_ok h)) ?_
  refine cg (sp_call en55 (f55_ok e_4) ⟨od rfl, od rfl, trivial⟩) ?_
  refine sn fun a w hS => ?_
  refine et ?_
  refine st_cond hS rfl (fun hb => ?_) (fun hb => ?_)
  · have h := ite_t hb h
    refine ws ?_
    refine st_reg mixed (by kernel_rfl) hS ?_
    refine cg (sp_assign (odi)) ?_
    refine sn fun a w hS => ?_
    refine et ?_
    refine wp_ret ?_
    refine exit_thenR ?_
    cases h
    exact st_ret hS (run_results1 Tryz.results32 a w) (hS.get rfl)
  have h := ite_f hb h
  refine wp_skip ?_
  refine et ?_
  refine ws ?_
  refine st_reg mixed (by kernel_rfl) hS ?_
  refine cg (sp_assign (odi)) ?_
  refine sn fun a w hS => ?_
  refine et ?_
  refine wp_ret ?_
  cases h
  exact st_ret hS (run_results1 Tryz.results32 a w) (hS.get rfl)

theorem f78_ok {p0 : S_api_Roster} {p1 : Int} {p2 : Int} {p3 : Int} {p4 : Int} {r : S_watch_lag} (h : M.f78 p0 p1 p2 p3 p4 = some r) : CallOK Tryz.prog 78 [isV p0, isV p1, isV p2, isV p3, isV p4] (isV r) := by
  unfold M.f78 at h
  refine callS_of Tryz.func78 rfl Tryz.ntmps78 rfl fun F0 w0 a hS => ?_
  refine ws ?_
  refine l_start ?_
  refine s_c hS (sg (sp_box (od rfl))) rfl fun a w hS hM => ?_
  refine s_alloc zi66 hS rfl fun a w b_1 hS hM => ?_
  have hS : St _ F0 [Item.box (α := S_watch_lag) 66 b_1 ((0, false) : S_watch_lag)] _ w0 _ _ := hS
  refine l_end ?_
  refine et ?_
  refine ws ?_
  obtain ⟨v_2, e_3, h⟩ := bind_some h
  obtain ⟨v_4, e_5, h⟩ := bind_some h
  refine l_start ?_
  refine s_c hS (sg (sp_move (od rfl))) rfl fun a w hS hM => ?_
  refine s_c hS (sg (sp_move (od rfl))) rfl fun a w hS hM => ?_
  refine s_c hS (sg (sp_sub (od rfl) (od rfl))) rfl fun a w hS hM => ?_
  refine s_c hS (sg (sp_fieldAddr fd34_3 (od rfl))) rfl fun a w hS hM => ?_
  refine s_c hS (sg (sp_load ty31 (od rfl))) rfl fun a w hS hM => ?_
  refine s_c hS (sg (sp_move (od rfl))) rfl fun a w hS hM => ?_
  refine s_c hS (sg (sp_indexAddr sl31 (od rfl) (od rfl) e_3)) rfl fun a w hS hM => ?_
  refine s_c hS (sg (sp_load ty39 (od rfl))) rfl fun a w hS hM => ?_
  refine s_c hS (sg (sp_move (od rfl))) rfl fun a w hS hM => ?_
  refine s_c hS (sg (sp_indexAddr sl39 (od rfl) (od rfl) e_5)) rfl fun a w hS hM => ?_
  refine s_c hS (sg (sp_load ty3 (od rfl))) rfl fun a w hS hM => ?_
  refine s_c hS (sg (sp_add (od rfl) (od rfl))) rfl fun a w hS hM => ?_
  refine s_c hS (sg (sp_move (od rfl))) rfl fun a w hS hM => ?_
  refine s_c hS (sg (sp_move (od rfl))) rfl fun a w hS hM => ?_
  refine s_c hS (sg (sp_eql (od rfl) (od rfl))) rfl fun a w hS hM => ?_
  refine s_c hS (sg (bd66_01 (od rfl) (od rfl))) rfl fun a w hS hM => ?_
  refine s_storeB (k := 0) (Δ := [(10, Pr.ptr b_1), (26, isV (α := S_watch_lag) (((wr ((wr (p4 - p2)) + v_4)), (p1 == p3)) : S_watch_lag))]) ty66 hS rfl ⟨od rfl, od rfl, trivial⟩ ⟨fun _ _ _ _ h => h, fun _ _ _ _ h => h, trivial⟩ rfl (od rfl) fun w hS hM => ?_
  have hS : St _ F0 [Item.box (α := S_watch_lag) 66 b_1 (((wr ((wr (p4 - p2)) + v_4)), (p1 == p3)) : S_watch_lag)] _ w0 _ _ := hS
  have hS := st_freezeB 0 10 hS rfl rfl
  refine l_end ?_
  refine et ?_
  refine wp_ret ?_
  cases h
  obtain ⟨v, hr, hv⟩ := run_resC1 Tryz.results78 ty66 (hS.get rfl)
  exact st_ret hS hr hv

theorem f33_ok {p0 : S_api_Roster} {p1 : Int} {r : S_watch_lag} (h : M.f33 p0 p1 = some r) : CallOK Tryz.prog 33 [isV p0, isV p1] (isV r) := by
  unfold M.f33 at h
  refine callS_of Tryz.func33 rfl Tryz.ntmps33 rfl fun F0 w0 a hS => ?_
  refine ws ?_
  refine l_start ?_
  refine s_c hS (sg (sp_box (od rfl))) rfl fun a w hS hM => ?_
  refine s_alloc zi66 hS rfl fun a w b_1 hS hM => ?_
  have hS : St _ F0 [Item.box (α := S_watch_lag) 66 b_1 ((0, false) : S_watch_lag)] _ w0 _ _ := hS
  refine l_end ?_
  refine et ?_
  refine ws ?_
  obtain ⟨v_2, e_3, h⟩ := bind_some h
  refine l_start ?_
  refine s_c hS (sg (sp_fieldAddr fd34_4 (od rfl))) rfl fun a w hS hM => ?_
  refine s_c hS (sg (sp_load ty32 (od rfl))) rfl fun a w hS hM => ?_
  refine s_c hS (sg (sp_move (od rfl))) rfl fun a w hS hM => ?_
  refine s_c hS (sg (sp_indexAddr sl32 (od rfl) (od rfl) e_3)) rfl fun a w hS hM => ?_
  refine s_c hS (sg (sp_load ty23 (od rfl))) rfl fun a w hS hM => ?_
  refine s_allocStore ze23 hS (od rfl) (fun k hk => by cases hk; rfl) rfl fun a w hS hM => ?_
  refine l_end ?_
  refine et ?_
  refine ws ?_
  obtain ⟨v_4, e_5, h⟩ := bind_some h
  refine l_start ?_
  refine s_c hS (sg (sp_load ty34 (od rfl))) rfl fun a w hS hM => ?_
  refine s_c hS (sg (sp_fieldAddr fd34_1 (od rfl))) rfl fun a w hS hM => ?_
  refine s_c hS (sg (sp_load ty3 (od rfl))) rfl fun a w hS hM => ?_
  refine s_c hS (sg (sp_fieldAddr fd23_1 (od rfl))) rfl fun a w hS hM => ?_
  refine s_c hS (sg (sp_load ty3 (od rfl))) rfl fun a w hS hM => ?_
  refine s_c hS (sg (sp_fieldAddr fd23_2 (od rfl))) rfl fun a w hS hM => ?_
  refine s_c hS (sg (sp_load ty3 (od rfl))) rfl fun a w hS hM => ?_
  refine s_c hS (sg (sp_call en78 (f78_ok e_5) ⟨od rfl, odi, od rfl, od rfl, od rfl, trivial⟩)) rfl fun a w hS hM => ?_
  refine s_storeB (k := 0) (Δ := [(4, Pr.ptr b_1), (18, isV (α := S_watch_lag) v_4)]) ty66 hS rfl ⟨od rfl, od rfl, trivial⟩ ⟨fun _ _ _ _ h => h, fun _ _ _ _ h => h, trivial⟩ rfl (od rfl) fun w hS hM => ?_
  have hS : St _ F0 [Item.box (α := S_watch_lag) 66 b_1 v_4] _ w0 _ _ := hS
  have hS := st_freezeB 0 4 hS rfl rfl
  refine l_end ?_
  refine et ?_
  refine wp_ret ?_
  cases h
  obtain ⟨v, hr, hv⟩ := run_resC1 Tryz.results33 ty66 (hS.get rfl)
  exact st_ret hS hr hv

theorem f34_ok {p0 : S_watch_lag} {r : Bool} (h : M.f34 p0 = some r) : CallOK Tryz.prog 34 [isV p0] (isV r) := by
  unfold M.f34 at h
  refine callS_of Tryz.func34 rfl Tryz.ntmps34 rfl fun F0 w0 a hS => ?_
  refine ws ?_
  refine st_reg mixed (by kernel_rfl) hS ?_
  refine cg (sp_box (od rfl)) ?_
  refine cg (sp_assign (odb)) ?_
  refine sn fun a w hS => ?_
  refine et ?_
  refine ws ?_
  refine st_reg mixed (by kernel_rfl) hS ?_
  refine cg (sp_fieldAddr fd66_0 (od rfl)) ?_
  refine cg (sp_load ty3 (od rfl)) ?_
  refine cg (sp_leq (od rfl) (odi)) ?_
  refine cg (sp_assign (od rfl)) ?_
  refine sn fun a w hS => ?_
  refine et ?_
  refine wp_ret ?_
  cases h
  exact st_ret hS (run_results1 Tryz.results34 a w) (hS.get rfl)

theorem f10_ok {p0 : S_api_Roster} {p1 : Int} {r : Bool × Int} (h : M.f10 p0 p1 = some r) : CallOK Tryz.prog 10 [isV p0, isV p1] (isTup [isV r.1, isV r.2]) := by
  unfold M.f10 at h
  refine callS_of Tryz.func10 rfl Tryz.ntmps10 rfl fun F0 w0 a hS => ?_
  refine ws ?_
  refine st_reg mixed (by kernel_rfl) hS ?_
  refine cg (sp_box (od rfl)) ?_
  refine cg (sp_assign (odb)) ?_
  refine cg (sp_assign (odi)) ?_
  refine sn fun a w hS => ?_
  refine et ?_
  refine ws ?_
  refine ws ?_
  obtain ⟨v_1, e_2, h⟩ := bind_some h
  refine st_reg mixed (by kernel_rfl) hS ?_
  refine cg (sp_load ty34 (od rfl)) ?_
  refine mv rfl ?_
  refine cg (sp_buildSlice [.tmp 8] ([p1] : List Int) sl39 ze3 rfl rfl rfl rfl ⟨od rfl, trivial⟩) ?_
  refine cg (sp_call en32 (f32_ok e_2) ⟨od rfl, od rfl, trivial⟩) ?_
  refine cg (sp_assign (od rfl)) ?_
  refine sn fun a w hS => ?_
  refine et ?_
  refine ws ?_
  refine st_reg mixed (by kernel_rfl) hS ?_
  refine mv rfl ?_
  refine cg (sp_neq (od rfl) (odi)) ?_
  refine sn fun a w hS => ?_
  refine et ?_
  refine st_cond hS rfl (fun hb => ?_) (fun hb => ?_)
  · have h := ite_t hb h
    refine ws ?_
    refine st_reg mixed (by kernel_rfl) hS ?_
    refine mv rfl ?_
    refine cg (sp_assign (odb)) ?_
    refine cg (sp_assign (od rfl)) ?_
    refine sn fun a w hS => ?_
    refine et ?_
    refine wp_ret ?_
    refine exit_thenR ?_
    cases h
    exact st_ret hS (run_results2 Tryz.results10 a w) (⟨_, rfl, hS.get rfl, hS.get rfl, trivial⟩)
  have h := ite_f hb h
  refine wp_skip ?_
  refine et ?_
  refine ws ?_
  obtain ⟨v_3, e_4, h⟩ := bind_some h
  obtain ⟨v_5, e_6, h⟩ := bind_some h
  refine st_reg mixed (by kernel_rfl) hS ?_
  refine cg (sp_load ty34 (od rfl)) ?_
  refine mv rfl ?_
  refine cg (sp_call en33 (f33_ok e_4) ⟨od rfl, od rfl, trivial⟩) ?_
  refine cg (sp_call en34 (f34_ok e_6) ⟨od rfl, trivial⟩) ?_
  refine cg (sp_assign (od rfl)) ?_
  refine cg (sp_assign (odi)) ?_
  refine sn fun a w hS => ?_
  refine et ?_
  refine wp_ret ?_
  cases h
  exact st_ret hS (run_results2 Tryz.results10 a w) (⟨_, rfl, hS.get rfl, hS.get rfl, trivial⟩)

theorem f79_ok {p0 : S_api_Roster} {p1 : Int} {p2 : Int} {r : S_watch_lag} (h : M.f79 p0 p1 p2 = some r) : CallOK Tryz.prog 79 [isV p0, isV p1, isV p2] (isV r) := by
  unfold M.f79 at h
  refine callS_of Tryz.func79 rfl Tryz.ntmps79 rfl fun F0 w0 a hS => ?_
  refine ws ?_
  refine l_start ?_
  refine s_c hS (sg (sp_box (od rfl))) rfl fun a w hS hM => ?_
  refine s_alloc zi66 hS rfl fun a w b_1 hS hM => ?_
  have hS : St _ F0 [Item.box (α := S_watch_lag) 66 b_1 ((0, false) : S_watch_lag)] _ w0 _ _ := hS
  refine l_end ?_
  refine et ?_
  refine ws ?_
  obtain ⟨v_2, e_3, h⟩ := bind_some h
  obtain ⟨v_4, e_5, h⟩ := bind_some h
  have hS := hS.weak (Δ := [(0, isV (α := S_api_Roster) p0), (1, isV (α := Int) p1), (2, isV (α := Int) p2), (3, isA (α := S_api_Roster) p0), (6, Pr.ptr b_1)]) ⟨od rfl, od rfl, od rfl, od rfl, od rfl, trivial⟩
  refine st_pairs mixed [0, 0, 0, 0, 0, 0, 0, 0, 0, 0, 3, 3, 4, 4] [⟨10, 12, 7, 23, S_api_Turn, inferInstance, ((0, 0, 0, 0, 0, 0) : S_api_Turn), v_2⟩, ⟨11, 13, 8, 23, S_api_Turn, inferInstance, ((0, 0, 0, 0, 0, 0) : S_api_Turn), v_4⟩] (by kernel_rfl) (by kernel_rfl) hS ⟨fun _ _ _ _ h => h, fun _ _ _ _ h => h, fun _ _ _ _ h => h, fun _ _ _ _ h => h, fun _ _ _ _ h => h, trivial⟩ ?_
  refine sq0 (fun _ _ _ _ h => h) (sg (sp_fieldAddr fd34_4 (od rfl))) ?_
  refine sq0 (fun _ _ _ _ h => h) (sg (sp_load ty32 (od rfl))) ?_
  refine sq0 (fun _ _ _ _ h => h) (sg (sp_move (od rfl))) ?_
  refine sq0 (fun _ _ _ _ h => h) (sg (sp_indexAddr sl32 (od rfl) (od rfl) e_3)) ?_
  refine sq0 (fun _ _ _ _ h => h) (sg (sp_load ty23 (od rfl))) ?_
  refine sq0 (fun _ _ _ _ h => h) (sg (sp_fieldAddr fd34_4 (od rfl))) ?_
  refine sq0 (fun _ _ _ _ h => h) (sg (sp_load ty32 (od rfl))) ?_
  refine sq0 (fun _ _ _ _ h => h) (sg (sp_move (od rfl))) ?_
  refine sq0 (fun _ _ _ _ h => h) (sg (sp_indexAddr sl32 (od rfl) (od rfl) e_5)) ?_
  refine sq0 (fun _ _ _ _ h => h) (sg (sp_load ty23 (od rfl))) ?_
  refine sqA 0 rfl zi23 ?_
  refine sqA 1 rfl zi23 ?_
  refine sqS 0 rfl ty23 (od rfl) ?_
  refine sqS 1 rfl ty23 (od rfl) ?_
  refine sqN fun a w bs hl hS => ?_
  obtain ⟨b_6, b_7, rfl⟩ := len2 hl
  have hS : St _ F0 [Item.box (α := S_watch_lag) 66 b_1 ((0, false) : S_watch_lag), Item.box (α := S_api_Turn) 23 b_6 (v_2 : S_api_Turn), Item.box (α := S_api_Turn) 23 b_7 (v_4 : S_api_Turn)] ((7, Pr.ptr b_6) :: (8, Pr.ptr b_7) :: _) w0 _ _ := hS
  have hS := st_freezeB 1 7 hS rfl rfl
  have hS := st_freezeB 1 8 hS rfl rfl
  refine et ?_
  refine ws ?_
  obtain ⟨v_8, e_9, h⟩ := bind_some h
  refine l_start ?_
  refine s_c hS (sg (sp_load ty34 (od rfl))) rfl fun a w hS hM => ?_
  refine s_c hS (sg (sp_fieldAddr fd23_3 (od rfl))) rfl fun a w hS hM => ?_
  refine s_c hS (sg (sp_load ty3 (od rfl))) rfl fun a w hS hM => ?_
  refine s_c hS (sg (sp_fieldAddr fd23_4 (od rfl))) rfl fun a w hS hM => ?_
  refine s_c hS (sg (sp_load ty3 (od rfl))) rfl fun a w hS hM => ?_
  refine s_c hS (sg (sp_fieldAddr fd23_1 (od rfl))) rfl fun a w hS hM => ?_
  refine s_c hS (sg (sp_load ty3 (od rfl))) rfl fun a w hS hM => ?_
  refine s_c hS (sg (sp_fieldAddr fd23_2 (od rfl))) rfl fun a w hS hM => ?_
  refine s_c hS (sg (sp_load ty3 (od rfl))) rfl fun a w hS hM => ?_
  refine s_c hS (sg (sp_call en78 (f78_ok e_9) ⟨od rfl, od rfl, od rfl, od rfl, od rfl, trivial⟩)) rfl fun a w hS hM => ?_
  refine s_storeB (k := 0) (Δ := [(6, Pr.ptr b_1), (28, isV (α := S_watch_lag) v_8)]) ty66 hS rfl ⟨od rfl, od rfl, trivial⟩ ⟨fun _ _ _ _ h => h, fun _ _ _ _ h => h, trivial⟩ rfl (od rfl) fun w hS hM => ?_
  have hS : St _ F0 [Item.box (α := S_watch_lag) 66 b_1 v_8] _ w0 _ _ := hS
  have hS := st_freezeB 0 6 hS rfl rfl
  refine l_end ?_
  refine et ?_
  refine wp_ret ?_
  cases h
  obtain ⟨v, hr, hv⟩ := run_resC1 Tryz.results79 ty66 (hS.get rfl)
  exact st_ret hS hr hv

theorem f35_ok {p0 : S_api_Roster} {p1 : Int} {p2 : Int} {r : Bool} (h : M.f35 p0 p1 p2 = some r) : CallOK Tryz.prog 35 [isV p0, isV p1, isV p2] (isV r) := by
  unfold M.f35 at h
  refine callS_of Tryz.func35 rfl Tryz.ntmps35 rfl fun F0 w0 a hS => ?_
  refine ws ?_
  refine st_reg mixed (by kernel_rfl) hS ?_
  refine cg (sp_box (od rfl)) ?_
  refine cg (sp_assign (odb)) ?_
  refine sn fun a w hS => ?_
  refine et ?_
  refine ws ?_
  obtain ⟨v_1, e_2, h⟩ := bind_some h
  obtain ⟨v_3, e_4, h⟩ := bind_some h
  obtain ⟨v_5, e_6, h⟩ := bind_some h
  obtain ⟨v_7, e_8, h⟩ := bind_some h
  refine st_reg mixed (by kernel_rfl) hS ?_
  refine mv rfl ?_
  refine mv rfl ?_
  refine cg (sp_neq (od rfl) (od rfl)) ?_
  refine mv rfl ?_
  refine sc (sgT rfl fun hG => sp_fieldAddr fd34_4 (od rfl)) ?_
  refine sc (sgT rfl fun hG => sp_load ty32 (odw rfl hG)) ?_
  refine sc (sgT rfl fun hG => sp_move (od rfl)) ?_
  refine sc (sgT rfl fun hG => sp_indexAddr sl32 (odw rfl hG) (odw rfl hG) (guard_some e_2 hG)) ?_
  refine sc (sgT rfl fun hG => sp_fieldAddr fd23_0 (odw rfl hG)) ?_
  refine sc (sgT rfl fun hG => sp_load ty3 (odw rfl hG)) ?_
  refine sc (sgT rfl fun hG => sp_fieldAddr fd34_4 (od rfl)) ?_
  refine sc (sgT rfl fun hG => sp_load ty32 (odw rfl hG)) ?_
  refine sc (sgT rfl fun hG => sp_move (od rfl)) ?_
  refine sc (sgT rfl fun hG => sp_indexAddr sl32 (odw rfl hG) (odw rfl hG) (guard_some e_4 hG)) ?_
  refine sc (sgT rfl fun hG => sp_fieldAddr fd23_0 (odw rfl hG)) ?_
  refine sc (sgT rfl fun hG => sp_load ty3 (odw rfl hG)) ?_
  refine sc (sgT rfl fun hG => sp_eql (odw rfl hG) (odw rfl hG)) ?_
  refine cg (sp_pickAnd (od rfl) fun hg => odw rfl hg) ?_
  refine mv rfl ?_
  refine sc (sgT rfl fun hG => sp_load ty34 (od rfl)) ?_
  refine sc (sgT rfl fun hG => sp_move (od rfl)) ?_
  refine sc (sgT rfl fun hG => sp_move (od rfl)) ?_
  refine sc (sgT rfl fun hG => sp_call en79 (f79_ok (guard_some e_6 hG)) ⟨odw rfl hG, odw rfl hG, odw rfl hG, trivial⟩) ?_
  refine sc (sgT rfl fun hG => sp_call en34 (f34_ok (guard_some e_8 hG)) ⟨odw rfl hG, trivial⟩) ?_
  refine cg (sp_pickAnd (od rfl) fun hg => odw rfl hg) ?_
  refine cg (sp_assign (od rfl)) ?_
  refine sn fun a w hS => ?_
  refine et ?_
  refine wp_ret ?_
  cases h
  exact st_ret hS (run_results1 Tryz.results35 a w) (hS.get rfl)

theorem f11_ok {p0 : S_api_Roster} {p1 : Int} {p2 : Int} {r : Bool × Int} (h : M.f11 p0 p1 p2 = some r) : CallOK Tryz.prog 11 [isV p0, isV p1, isV p2] (isTup [isV r.1, isV r.2]) := by
  unfold M.f11 at h
  refine callS_of Tryz.func11 rfl Tryz.ntmps11 rfl fun F0 w0 a hS => ?_
  refine ws ?_
  refine st_reg mixed (by kernel_rfl) hS ?_
  refine cg (sp_box (od rfl)) ?_
  refine cg (sp_assign (odb)) ?_
  refine cg (sp_assign (odi)) ?_
  refine sn fun a w hS => ?_
  refine et ?_
  refine ws ?_
  refine ws ?_
  obtain ⟨v_1, e_2, h⟩ := bind_some h
  refine st_reg mixed (by kernel_rfl) hS ?_
  refine cg (sp_load ty34 (od rfl)) ?_
  refine mv rfl ?_
  refine mv rfl ?_
  refine cg (sp_buildSlice [.tmp 10, .tmp 11] ([p1, p2] : List Int) sl39 ze3 rfl rfl rfl rfl ⟨od rfl, od rfl, trivial⟩) ?_
  refine cg (sp_call en32 (f32_ok e_2) ⟨od rfl, od rfl, trivial⟩) ?_
  refine cg (sp_assign (od rfl)) ?_
  refine sn fun a w hS => ?_
  refine et ?_
  refine ws ?_
  refine st_reg mixed (by kernel_rfl) hS ?_
  refine mv rfl ?_
  refine cg (sp_neq (od rfl) (odi)) ?_
  refine sn fun a w hS => ?_
  refine et ?_
  refine st_cond hS rfl (fun hb => ?_) (fun hb => ?_)
  · have h := ite_t hb h
    refine ws ?_
    refine st_reg mixed (by kernel_rfl) hS ?_
    refine mv rfl ?_
    refine cg (sp_assign (odb)) ?_
    refine cg (sp_assign (od rfl)) ?_
    refine sn fun a w hS => ?_
    refine et ?_
    refine wp_ret ?_
    refine exit_thenR ?_
    cases h
    exact st_ret hS (run_results2 Tryz.results11 a w) (⟨_, rfl, hS.get rfl, hS.get rfl, trivial⟩)
  have h := ite_f hb h
  refine wp_skip ?_
  refine et ?_
  refine ws ?_
  obtain ⟨v_3, e_4, h⟩ := bind_some h
  refine st_reg mixed (by kernel_rfl) hS ?_
  refine cg (sp_load ty34 (od rfl)) ?_
  refine mv rfl ?_
  refine mv rfl ?_
  refine cg (sp_call en35 (f35_ok e_4) ⟨od rfl, od rfl, od rfl, trivial⟩) ?_
  refine cg (sp_assign (od rfl)) ?_
  refine cg (sp_assign (odi)) ?_
  refine sn fun a w hS => ?_
  refine et ?_
  refine wp_ret ?_
  cases h
  exact st_ret hS (run_results2 Tryz.results11 a w) (⟨_, rfl, hS.get rfl, hS.get rfl, trivial⟩)

theorem f36_ok {p0 : S_api_Roster} {p1 : Int} {r : S_watch_lag} (h : M.f36 p0 p1 = some r) : CallOK Tryz.prog 36 [isV p0, isV p1] (isV r) := by
  unfold M.f36 at h
  refine callS_of Tryz.func36 rfl Tryz.ntmps36 rfl fun F0 w0 a hS => ?_
  refine ws ?_
  refine l_start ?_
  refine s_c hS (sg (sp_box (od rfl))) rfl fun a w hS hM => ?_
  refine s_alloc zi66 hS rfl fun a w b_1 hS hM => ?_
  have hS : St _ F0 [Item.box (α := S_watch_lag) 66 b_1 ((0, false) : S_watch_lag)] _ w0 _ _ := hS
  refine l_end ?_
  refine et ?_
  refine ws ?_
  obtain ⟨v_2, e_3, h⟩ := bind_some h
  refine l_start ?_
  refine s_c hS (sg (sp_fieldAddr fd34_4 (od rfl))) rfl fun a w hS hM => ?_
  refine s_c hS (sg (sp_load ty32 (od rfl))) rfl fun a w hS hM => ?_
  refine s_c hS (sg (sp_move (od rfl))) rfl fun a w hS hM => ?_
  refine s_c hS (sg (sp_indexAddr sl32 (od rfl) (od rfl) e_3)) rfl fun a w hS hM => ?_
  refine s_c hS (sg (sp_load ty23 (od rfl))) rfl fun a w hS hM => ?_
  refine s_allocStore ze23 hS (od rfl) (fun k hk => by cases hk; rfl) rfl fun a w hS hM => ?_
  refine l_end ?_
  refine et ?_
  refine ws ?_
  obtain ⟨v_4, e_5, h⟩ := bind_some h
  refine l_start ?_
  refine s_c hS (sg (sp_load ty34 (od rfl))) rfl fun a w hS hM => ?_
  refine s_c hS (sg (sp_fieldAddr fd23_3 (od rfl))) rfl fun a w hS hM => ?_
  refine s_c hS (sg (sp_load ty3 (od rfl))) rfl fun a w hS hM => ?_
  refine s_c hS (sg (sp_fieldAddr fd23_4 (od rfl))) rfl fun a w hS hM => ?_
  refine s_c hS (sg (sp_load ty3 (od rfl))) rfl fun a w hS hM => ?_
  refine s_c hS (sg (sp_fieldAddr fd34_2 (od rfl))) rfl fun a w hS hM => ?_
  refine s_c hS (sg (sp_load ty3 (od rfl))) rfl fun a w hS hM => ?_
  refine s_c hS (sg (sp_call en78 (f78_ok e_5) ⟨od rfl, od rfl, od rfl, odi, od rfl, trivial⟩)) rfl fun a w hS hM => ?_
  refine s_storeB (k := 0) (Δ := [(4, Pr.ptr b_1), (18, isV (α := S_watch_lag) v_4)]) ty66 hS rfl ⟨od rfl, od rfl, trivial⟩ ⟨fun _ _ _ _ h => h, fun _ _ _ _ h => h, trivial⟩ rfl (od rfl) fun w hS hM => ?_
  have hS : St _ F0 [Item.box (α := S_watch_lag) 66 b_1 v_4] _ w0 _ _ := hS
  have hS := st_freezeB 0 4 hS rfl rfl
  refine l_end ?_
  refine et ?_
  refine wp_ret ?_
  cases h
  obtain ⟨v, hr, hv⟩ := run_resC1 Tryz.results36 ty66 (hS.get rfl)
  exact st_ret hS hr hv

theorem f12_ok {p0 : S_api_Roster} {p1 : Int} {r : Bool × Int} (h : M.f12 p0 p1 = some r) : CallOK Tryz.prog 12 [isV p0, isV p1] (isTup [isV r.1, isV r.2]) := by
  unfold M.f12 at h
  refine callS_of Tryz.func12 rfl Tryz.ntmps12 rfl fun F0 w0 a hS => ?_
  refine ws ?_
  refine st_reg mixed (by kernel_rfl) hS ?_
  refine cg (sp_box (od rfl)) ?_
  refine cg (sp_assign (odb)) ?_
  refine cg (sp_assign (odi)) ?_
  refine sn fun a w hS => ?_
  refine et ?_
  refine ws ?_
  refine ws ?_
  obtain ⟨v_1, e_2, h⟩ := bind_some h
  refine st_reg mixed (by kernel_rfl) hS ?_
  refine cg (sp_load ty34 (od rfl)) ?_
  refine mv rfl ?_
  refine cg (sp_buildSlice [.tmp 8] ([p1] : List Int) sl39 ze3 rfl rfl rfl rfl ⟨od rfl, trivial⟩) ?_
  refine cg (sp_call en32 (f32_ok e_2) ⟨od rfl, od rfl, trivial⟩) ?_
  refine cg (sp_assign (od rfl)) ?_
  refine sn fun a w hS => ?_
  refine et ?_
  refine ws ?_
  refine st_reg mixed (by kernel_rfl) hS ?_
  refine mv rfl ?_
  refine cg (sp_neq (od rfl) (odi)) ?_
  refine sn fun a w hS => ?_
  refine et ?_
  refine st_cond hS rfl (fun hb => ?_) (fun hb => ?_)
  · have h := ite_t hb h
    refine ws ?_
    refine st_reg mixed (by kernel_rfl) hS ?_
    refine mv rfl ?_
    refine cg (sp_assign (odb)) ?_
    refine cg (sp_assign (od rfl)) ?_
    refine sn fun a w hS => ?_
    refine et ?_
    refine wp_ret ?_
    refine exit_thenR ?_
    cases h
    exact st_ret hS (run_results2 Tryz.results12 a w) (⟨_, rfl, hS.get rfl, hS.get rfl, trivial⟩)
  have h := ite_f hb h
  refine wp_skip ?_
  refine et ?_
  refine ws ?_
  obtain ⟨v_3, e_4, h⟩ := bind_some h
  obtain ⟨v_5, e_6, h⟩ := bind_some h
  refine st_reg mixed (by kernel_rfl) hS ?_
  refine cg (sp_load ty34 (od rfl)) ?_
  refine mv rfl ?_
  refine cg (sp_call en36 (f36_ok e_4) ⟨od rfl, od rfl, trivial⟩) ?_
  refine cg (sp_call en34 (f34_ok e_6) ⟨od rfl, trivial⟩) ?_
  refine cg (sp_assign (od rfl)) ?_
  refine cg (sp_assign (odi)) ?_
  refine sn fun a w hS => ?_
  refine et ?_
  refine wp_ret ?_
  cases h
  exact st_ret hS (run_results2 Tryz.results12 a w) (⟨_, rfl, hS.get rfl, hS.get rfl, trivial⟩)

theorem f80_ok {p0 : Int} {r : Bool} (h : M.f80 p0 = some r) : CallOK Tryz.prog 80 [isV p0] (isV r) := by
  unfold M.f80 at h
  refine callS_of Tryz.func80 rfl Tryz.ntmps80 rfl fun F0 w0 a hS => ?_
  refine ws ?_
  refine st_reg mixed (by kernel_rfl) hS ?_
  refine cg (sp_assign (odb)) ?_
  refine sn fun a w hS => ?_
  refine et ?_
  refine ws ?_
  obtain ⟨v_1, e_2, h⟩ := bind_some h
  refine st_reg mixed (by kernel_rfl) hS ?_
  refine mv rfl ?_
  refine cg (sp_call en54 (f54_ok e_2) ⟨od rfl, odi, odi, trivial⟩) ?_
  refine cg (sp_not (od rfl)) ?_
  refine cg (sp_assign (od rfl)) ?_
  refine sn fun a w hS => ?_
  refine et ?_
  refine wp_ret ?_
  cases h
  exact st_ret hS (run_results1 Tryz.results80 a w) (hS.get rfl)

theorem f37_ok {p0 : S_api_Roster} {p1 : List Int} {r : Bool} (h : M.f37 p0 p1 = some r) : CallOK Tryz.prog 37 [isV p0, isV p1] (isV r) := by
  unfold M.f37 at h
  refine callS_of Tryz.func37 rfl Tryz.ntmps37 rfl fun F0 w0 a hS => ?_
  refine ws ?_
  refine st_reg mixed (by kernel_rfl) hS ?_
  refine cg (sp_box (od rfl)) ?_
  refine cg (sp_assign (odb)) ?_
  refine sn fun a w hS => ?_
  refine et ?_
  refine ws ?_
  obtain ⟨v_1, e_2, h⟩ := bind_some h
  refine st_reg mixed (by kernel_rfl) hS ?_
  refine mv rfl ?_
  refine cg (sp_len Tryz.underlying39 (od rfl)) ?_
  refine cg (sp_fieldAddr fd34_3 (od rfl)) ?_
  refine cg (sp_load ty31 (od rfl)) ?_
  refine cg (sp_len Tryz.underlying31 (od rfl)) ?_
  refine cg (sp_eql (od rfl) (od rfl)) ?_
  refine mv rfl ?_
  refine sc (sgT rfl fun hG => sp_move (od rfl)) ?_
  refine sc (sgT rfl fun hG => sp_call en55 (f55_ok (guard_some e_2 hG)) ⟨odw rfl hG, of_fn87 (f := (fun x0 => M.f80 x0)) en80 (fun _ _ h => f80_ok h), trivial⟩) ?_
  refine sc (sgT rfl fun hG => sp_not (odw rfl hG)) ?_
  refine cg (sp_pickAnd (od rfl) fun hg => odw rfl hg) ?_
  refine cg (sp_assign (od rfl)) ?_
  refine sn fun a w hS => ?_
  refine et ?_
  refine wp_ret ?_
  cases h
  exact st_ret hS (run_results1 Tryz.results37 a w) (hS.get rfl)

theorem f38_ok {p0 : S_api_Roster} {p1 : List Int} {r : Bool} (h : M.f38 p0 p1 = some r) : CallOK Tryz.prog 38 [isV p0, isV p1] (isV r) := by
  unfold M.f38 at h
  refine callS_of Tryz.func38 rfl Tryz.ntmps38 rfl fun F0 w0 a hS => ?_
  refine ws ?_
  refine st_reg mixed (by kernel_rfl) hS ?_
  refine cg (sp_box (od rfl)) ?_
  refine cg (sp_assign (odb)) ?_
  refine sn fun a w hS => ?_
  refine et ?_
  refine ws ?_
  refine ws ?_
  refine st_reg mixed (by kernel_rfl) hS ?_
  refine cg (sp_fieldAddr fd34_3 (od rfl)) ?_
  refine cg (sp_load ty31 (od rfl)) ?_
  refine cg (sp_len Tryz.underlying31 (od rfl)) ?_
  refine cg (sp_move (odi)) ?_
  refine sn fun a w hS => ?_
  refine et ?_
  refine wp_block ?_
  obtain ⟨o_4, e_5, hr_6⟩ := bind_some h
  refine c_loop (fun K a w => ∃ k i_1 s_3, K = k + 1 ∧ ForI _ _ _ o_4 k i_1 s_3 ∧ St 37 F0 [] [(1, isV (α := List Int) p1), (10, isV (α := List (List Int)) p0.2.2.2.1), (11, isV (α := Int) (p0.2.2.2.1.length : Int)), (12, isV (α := Int) i_1)] w0 a w) ?_ ?_ ⟨_, _, _, rfl, for_init e_5, hS.weak ⟨od rfl, od rfl, od rfl, od rfl, trivial⟩⟩
  · rintro a w ⟨_, _, _, hk, _⟩; cases hk
  rintro K a w ⟨k_4, i_1, s_3, hk, hF_4, hS⟩
  obtain rfl := Nat.succ.inj hk
  refine ws ?_
  refine st_reg mixed (by kernel_rfl) hS ?_
  refine cg (sp_lss (od rfl) (od rfl)) ?_
  refine sn fun a w hS => ?_
  refine et ?_
  refine ws ?_
  refine st_cond hS rfl (fun hb => ?_) (fun hb => ?_)
  · refine wp_skip ?_
    refine et ?_
    obtain ⟨k_4, o, rfl, h, hN_4, hL_4, hw_4⟩ := for_more hF_4 hb
    refine ws ?_
    refine wp_block ?_
    refine ws ?_
    obtain ⟨v_7, e_8, h⟩ := bind_some h
    refine st_reg mixed (by kernel_rfl) hS ?_
    refine mv rfl ?_
    refine cg (sp_indexAddr sl31 (od rfl) (od rfl) e_8) ?_
    refine cg (sp_load ty39 (od rfl)) ?_
    refine cg (sp_assign (od rfl)) ?_
    refine cg (sp_assign (od rfl)) ?_
    refine sn fun a w hS => ?_
    refine et ?_
    refine ws ?_
    refine st_reg mixed (by kernel_rfl) hS ?_
    refine mv rfl ?_
    refine cg (sp_len Tryz.underlying39 (od rfl)) ?_
    refine cg (sp_move (odi)) ?_
    refine sn fun a w hS => ?_
    refine et ?_
    refine wp_block ?_
    obtain ⟨o_12, e_13, hr_14⟩ := bind_some h
    refine c_loop (fun K a w => ∃ k i_9 s_11, K = k + 1 ∧ ForI _ _ _ o_12 k i_9 s_11 ∧ St 37 F0 [] [(1, isV (α := List Int) p1), (5, isV (α := Int) i_1), (10, isV (α := List (List Int)) p0.2.2.2.1), (11, isV (α := Int) (p0.2.2.2.1.length : Int)), (12, isV (α := Int) i_1), (17, isV (α := List Int) v_7), (18, isV (α := Int) (v_7.length : Int)), (19, isV (α := Int) i_9)] w0 a w) ?_ ?_ ⟨_, _, _, rfl, for_init e_13, hS.weak ⟨od rfl, od rfl, od rfl, od rfl, od rfl, od rfl, od rfl, od rfl, trivial⟩⟩
    · rintro a w ⟨_, _, _, hk, _⟩; cases hk
    rintro K a w ⟨k_12, i_9, s_11, hk, hF_12, hS⟩
    obtain rfl := Nat.succ.inj hk
    refine ws ?_
    refine st_reg mixed (by kernel_rfl) hS ?_
    refine cg (sp_lss (od rfl) (od rfl)) ?_
    refine sn fun a w hS => ?_
    refine et ?_
    refine ws ?_
    refine st_cond hS rfl (fun hb => ?_) (fun hb => ?_)
    · refine wp_skip ?_
      refine et ?_
      obtain ⟨k_12, o, rfl, h, hN_12, hL_12, hw_12⟩ := for_more hF_12 hb
      refine ws ?_
      refine wp_block ?_
      refine ws ?_
      obtain ⟨v_15, e_16, h⟩ := bind_some h
      refine st_reg mixed (by kernel_rfl) hS ?_
      refine mv rfl ?_
      refine cg (sp_indexAddr sl39 (od rfl) (od rfl) e_16) ?_
      refine cg (sp_load ty3 (od rfl)) ?_
      refine cg (sp_assign (od rfl)) ?_
      refine cg (sp_assign (od rfl)) ?_
      refine sn fun a w hS => ?_
      refine et ?_
      refine ws ?_
      obtain ⟨v_17, e_18, h⟩ := bind_some h
      obtain ⟨v_19, e_20, h⟩ := bind_some h
      refine st_reg mixed (by kernel_rfl) hS ?_
      refine mv rfl ?_
      refine mv rfl ?_
      refine cg (sp_indexAddr sl39 (od rfl) (od rfl) e_18) ?_
      refine cg (sp_load ty3 (od rfl)) ?_
      refine mv rfl ?_
      refine mv rfl ?_
      refine cg (sp_indexAddr sl39 (od rfl) (od rfl) e_20) ?_
      refine cg (sp_load ty3 (od rfl)) ?_
      refine cg (sp_sub (od rfl) (od rfl)) ?_
      refine mv rfl ?_
      refine cg (sp_gtr (od rfl) (od rfl)) ?_
      refine sn fun a w hS => ?_
      refine et ?_
      refine st_cond hS rfl (fun hb => ?_) (fun hb => ?_)
      · have h := ite_t hb h
        refine ws ?_
        refine st_reg mixed (by kernel_rfl) hS ?_
        refine cg (sp_assign (odb)) ?_
        refine sn fun a w hS => ?_
        refine et ?_
        refine wp_ret ?_
        refine exit_blockR ?_
        refine exit_thenR ?_
        cases h
        obtain rfl := hL_12 _ rfl
        have h := (elim_leave hr_14)
        refine exit_thenR ?_
        refine exit_blockR ?_
        refine exit_blockR ?_
        refine exit_thenR ?_
        cases h
        obtain rfl := hL_4 _ rfl
        have h := (elim_leave hr_6)
        refine exit_thenR ?_
        refine exit_blockR ?_
        refine exit_thenR ?_
        cases h
        exact st_ret hS (run_results1 Tryz.results38 a w) (hS.get rfl)
      have h := ite_f hb h
      refine wp_skip ?_
      refine exit_block ?_
      refine et ?_
      refine st_reg mixed (by kernel_rfl) hS ?_
      refine cg (sp_add (od rfl) (odi)) ?_
      refine mv rfl ?_
      refine sn fun a w hS => ?_
      cases h
      exact ⟨k_12, _, _, rfl, hN_12 _ rfl, hS.weak ⟨od rfl, od rfl, od rfl, od rfl, od rfl, od rfl, od rfl, od (congrArg (fun z => some (isV (α := Int) z)) hw_12), trivial⟩⟩
    refine wp_exit ?_
    obtain rfl := for_done hF_12 hb
    have h := elim_again hr_14
    refine exit_thenE ?_
    refine exit_thenE ?_
    refine exit_here ?_
    refine exit_block ?_
    refine et ?_
    refine st_reg mixed (by kernel_rfl) hS ?_
    refine cg (sp_add (od rfl) (odi)) ?_
    refine mv rfl ?_
    refine sn fun a w hS => ?_
    cases h
    exact ⟨k_4, _, _, rfl, hN_4 _ rfl, hS.weak ⟨od rfl, od rfl, od rfl, od (congrArg (fun z => some (isV (α := Int) z)) hw_4), trivial⟩⟩
  refine wp_exit ?_
  obtain rfl := for_done hF_4 hb
  have h := elim_again hr_6
  refine exit_thenE ?_
  refine exit_thenE ?_
  refine exit_here ?_
  refine et ?_
  refine ws ?_
  refine st_reg mixed (by kernel_rfl) hS ?_
  refine cg (sp_assign (odb)) ?_
  refine sn fun a w hS => ?_
  refine et ?_
  refine wp_ret ?_
  cases h
  exact st_ret hS (run_results1 Tryz.results38 a w) (hS.get rfl)

theorem f39_ok {p0 : S_api_Turn} {p1 : List Int} {r : Bool} (h : M.f39 p0 p1 = some r) : CallOK Tryz.prog 39 [isV p0, isV p1] (isV r) := by
  unfold M.f39 at h
  refine callS_of Tryz.func39 rfl Tryz.ntmps39 rfl fun F0 w0 a hS => ?_
  refine ws ?_
  refine st_reg mixed (by kernel_rfl) hS ?_
  refine cg (sp_box (od rfl)) ?_
  refine cg (sp_assign (odb)) ?_
  refine sn fun a w hS => ?_
  refine et ?_
  refine ws ?_
  obtain ⟨v_1, e_2, h⟩ := bind_some h
  obtain ⟨v_3, e_4, h⟩ := bind_some h
  refine st_reg mixed (by kernel_rfl) hS ?_
  refine mv rfl ?_
  refine cg (sp_fieldAddr fd23_1 (od rfl)) ?_
  refine cg (sp_load ty3 (od rfl)) ?_
  refine cg (sp_indexAddr sl39 (od rfl) (od rfl) e_2) ?_
  refine cg (sp_load ty3 (od rfl)) ?_
  refine cg (sp_fieldAddr fd23_2 (od rfl)) ?_
  refine cg (sp_load ty3 (od rfl)) ?_
  refine cg (sp_geq (od rfl) (od rfl)) ?_
  refine mv rfl ?_
  refine sc (sgT rfl fun hG => sp_move (od rfl)) ?_
  refine sc (sgT rfl fun hG => sp_fieldAddr fd23_3 (od rfl)) ?_
  refine sc (sgT rfl fun hG => sp_load ty3 (odw rfl hG)) ?_
  refine sc (sgT rfl fun hG => sp_indexAddr sl39 (odw rfl hG) (odw rfl hG) (guard_some e_4 hG)) ?_
  refine sc (sgT rfl fun hG => sp_load ty3 (odw rfl hG)) ?_
  refine sc (sgT rfl fun hG => sp_fieldAddr fd23_4 (od rfl)) ?_
  refine sc (sgT rfl fun hG => sp_load ty3 (odw rfl hG)) ?_
  refine sc (sgT rfl fun hG => sp_lss (odw rfl hG) (odw rfl hG)) ?_
  refine cg (sp_pickAnd (od rfl) fun hg => odw rfl hg) ?_
  refine cg (sp_assign (od rfl)) ?_
  refine sn fun a w hS => ?_
  refine et ?_
  refine wp_ret ?_
  cases h
  exact st_ret hS (run_results1 Tryz.results39 a w) (hS.get rfl)

theorem f13_ok {p0 : S_api_Roster} {p1 : List Int} {r : (List Int) × Int} (h : M.f13 p0 p1 = some r) : CallOK Tryz.prog 13 [isV p0, isV p1] (isTup [isV r.1, isV r.2]) := by
  unfold M.f13 at h
  refine callS_of Tryz.func13 rfl Tryz.ntmps13 rfl fun F0 w0 a hS => ?_
  refine ws ?_
  refine st_reg mixed (by kernel_rfl) hS ?_
  refine cg (sp_box (od rfl)) ?_
  refine cg (sp_assign (odnil (α := Int))) ?_
  refine cg (sp_assign (odi)) ?_
  refine sn fun a w hS => ?_
  refine et ?_
  refine ws ?_
  refine ws ?_
  obtain ⟨v_1, e_2, h⟩ := bind_some h
  refine st_reg mixed (by kernel_rfl) hS ?_
  refine cg (sp_load ty34 (od rfl)) ?_
  refine cg (sp_call en25 (f25_ok e_2) ⟨od rfl, trivial⟩) ?_
  refine cg (sp_assign (od rfl)) ?_
  refine sn fun a w hS => ?_
  refine et ?_
  refine ws ?_
  refine st_reg mixed (by kernel_rfl) hS ?_
  refine mv rfl ?_
  refine cg (sp_neq (od rfl) (odi)) ?_
  refine sn fun a w hS => ?_
  refine et ?_
  refine st_cond hS rfl (fun hb => ?_) (fun hb => ?_)
  · have h := ite_t hb h
    refine ws ?_
    refine st_reg mixed (by kernel_rfl) hS ?_
    refine mv rfl ?_
    refine cg (sp_assign (odnil (α := Int))) ?_
    refine cg (sp_assign (od rfl)) ?_
    refine sn fun a w hS => ?_
    refine et ?_
    refine wp_ret ?_
    refine exit_thenR ?_
    cases h
    exact st_ret hS (run_results2 Tryz.results13 a w) (⟨_, rfl, hS.get rfl, hS.get rfl, trivial⟩)
  have h := ite_f hb h
  refine wp_skip ?_
  refine et ?_
  refine ws ?_
  refine ws ?_
  obtain ⟨v_3, e_4, h⟩ := bind_some h
  refine st_reg mixed (by kernel_rfl) hS ?_
  refine cg (sp_load ty34 (od rfl)) ?_
  refine mv rfl ?_
  refine cg (sp_call en37 (f37_ok e_4) ⟨od rfl, od rfl, trivial⟩) ?_
  refine cg (sp_not (od rfl)) ?_
  refine sn fun a w hS => ?_
  refine et ?_
  refine st_cond hS rfl (fun hb => ?_) (fun hb => ?_)
  · have h := ite_t hb h
    refine ws ?_
    refine st_reg mixed (by kernel_rfl) hS ?_
    refine cg (sp_assign (odnil (α := Int))) ?_
    refine cg (sp_assign (odi)) ?_
    refine sn fun a w hS => ?_
    refine et ?_
    refine wp_ret ?_
    refine exit_thenR ?_
    cases h
    exact st_ret hS (run_results2 Tryz.results13 a w) (⟨_, rfl, hS.get rfl, hS.get rfl, trivial⟩)
  have h := ite_f hb h
  refine wp_skip ?_
  refine et ?_
  refine ws ?_
  refine ws ?_
  obtain ⟨v_5, e_6, h⟩ := bind_some h
  refine st_reg mixed (by kernel_rfl) hS ?_
  refine cg (sp_load ty34 (od rfl)) ?_
  refine mv rfl ?_
  refine cg (sp_call en38 (f38_ok e_6) ⟨od rfl, od rfl, trivial⟩) ?_
  refine cg (sp_not (od rfl)) ?_
  refine sn fun a w hS => ?_
  refine et ?_
  refine st_cond hS rfl (fun hb => ?_) (fun hb => ?_)
  · have h := ite_t hb h
    refine ws ?_
    refine st_reg mixed (by kernel_rfl) hS ?_
    refine cg (sp_assign (odnil (α := Int))) ?_
    refine cg (sp_assign (odi)) ?_
    refine sn fun a w hS => ?_
    refine et ?_
    refine wp_ret ?_
    refine exit_thenR ?_
    cases h
    exact st_ret hS (run_results2 Tryz.results13 a w) (⟨_, rfl, hS.get rfl, hS.get rfl, trivial⟩)
  have h := ite_f hb h
  refine wp_skip ?_
  refine et ?_
  refine ws ?_
  refine st_reg mixed (by kernel_rfl) hS ?_
  refine cg (sp_assign (φ := Pr.is (.slice none 0 0)) (odc fun _ => rfl)) ?_
  refine sn fun a w hS => ?_
  have hS := st_nil (α := Int) 3 hS
  have hS : St _ F0 [Item.sl (α := Int) 3 (.slice none 0 0) ([] : List Int)] _ w0 _ _ := hS
  refine et ?_
  refine ws ?_
  refine ws ?_
  refine st_reg mixed (by kernel_rfl) hS ?_
  refine cg (sp_fieldAddr fd34_4 (od rfl)) ?_
  refine cg (sp_load ty32 (od rfl)) ?_
  refine cg (sp_len Tryz.underlying32 (od rfl)) ?_
  refine cg (sp_move (odi)) ?_
  refine sn fun a w hS => ?_
  refine et ?_
  refine wp_block ?_
  obtain ⟨o_10, e_11, hr_12⟩ := bind_some h
  refine c_loop (fun K a w => ∃ k i_7 s_9, ∃ u_13 : Value, K = k + 1 ∧ ForT _ _ _ o_10 k i_7 s_9 ∧ St 40 F0 [Item.sl (α := Int) 3 u_13 s_9] [(1, isV (α := List Int) p1), (7, Pr.is u_13), (24, isV (α := List S_api_Turn) p0.2.2.2.2), (25, isV (α := Int) (p0.2.2.2.2.length : Int)), (26, isV (α := Int) i_7)] w0 a w) ?_ ?_ ⟨_, _, _, (.slice none 0 0), rfl, fors_init e_11, hS.weak ⟨od rfl, od rfl, od rfl, od rfl, od rfl, trivial⟩⟩
  · rintro a w ⟨_, _, _, _, hk, _⟩; cases hk
  rintro K a w ⟨k_10, i_7, s_9, u_13, hk, hF_10, hS⟩
  obtain rfl := Nat.succ.inj hk
  refine ws ?_
  refine st_reg mixed (by kernel_rfl) hS ?_
  refine cg (sp_lss (od rfl) (od rfl)) ?_
  refine sn fun a w hS => ?_
  refine et ?_
  refine ws ?_
  refine st_cond hS rfl (fun hb => ?_) (fun hb => ?_)
  · refine wp_skip ?_
    refine et ?_
    obtain ⟨k_10, s', rfl, h, hF_10, hw_10⟩ := fors_more hF_10 hb
    refine ws ?_
    refine wp_block ?_
    refine ws ?_
    obtain ⟨v_14, e_15, h⟩ := bind_some h
    refine l_start ?_
    refine s_c hS (sg (sp_move (od rfl))) rfl fun a w hS hM => ?_
    refine s_c hS (sg (sp_indexAddr sl32 (od rfl) (od rfl) e_15)) rfl fun a w hS hM => ?_
    refine s_c hS (sg (sp_load ty23 (od rfl))) rfl fun a w hS hM => ?_
    refine s_alloc zi23 hS rfl fun a w b_16 hS hM => ?_
    have hS : St _ F0 [Item.sl (α := Int) 3 u_13 s_9, Item.box (α := S_api_Turn) 23 b_16 ((0, 0, 0, 0, 0, 0) : S_api_Turn)] _ w0 _ _ := hS
    refine s_c hS (sg (sp_assign (od rfl))) rfl fun a w hS hM => ?_
    refine s_storeB (k := 1) (Δ := [(1, isV (α := List Int) p1), (7, Pr.is u_13), (8, isV (α := Int) i_7), (9, Pr.ptr b_16), (24, isV (α := List S_api_Turn) p0.2.2.2.2), (25, isV (α := Int) (p0.2.2.2.2.length : Int)), (26, isV (α := Int) i_7), (30, isV (α := S_api_Turn) v_14)]) ty23 hS rfl ⟨od rfl, od rfl, od rfl, od rfl, od rfl, od rfl, od rfl, od rfl, trivial⟩ ⟨fun _ _ _ _ h => h, fun _ _ _ _ h => h, fun _ _ _ _ h => h, fun _ _ _ _ h => h, fun _ _ _ _ h => h, fun _ _ _ _ h => h, fun _ _ _ _ h => h, fun _ _ _ _ h => h, trivial⟩ rfl (od rfl) fun w hS hM => ?_
    have hS : St _ F0 [Item.sl (α := Int) 3 u_13 s_9, Item.box (α := S_api_Turn) 23 b_16 v_14] _ w0 _ _ := hS
    have hS := st_freezeB 1 9 hS rfl rfl
    refine l_end ?_
    refine et ?_
    refine ws ?_
    obtain ⟨v_17, e_18, h⟩ := bind_some h
    refine st_reg mixed (by kernel_rfl) hS ?_
    refine cg (sp_load ty23 (od rfl)) ?_
    refine mv rfl ?_
    refine cg (sp_call en39 (f39_ok e_18) ⟨od rfl, od rfl, trivial⟩) ?_
    refine sn fun a w hS => ?_
    refine et ?_
    obtain ⟨y_20, hj_19, h⟩ := bind_some h
    refine wp_mono (Q := fun e a w => e = Exit.normal ∧ ∃ u_21 : Value, St 40 F0 [Item.sl (α := Int) 3 u_21 y_20] [(1, isV (α := List Int) p1), (7, Pr.is u_21), (24, isV (α := List S_api_Turn) p0.2.2.2.2), (25, isV (α := Int) (p0.2.2.2.2.length : Int)), (26, isV (α := Int) i_7)] w0 a w) ?_ ?_
    · refine st_cond hS rfl (fun hb => ?_) (fun hb => ?_)
      · have h := ite_t hb hj_19
        obtain ⟨z_22, e_23, h⟩ := bind_some h
        refine l_start ?_
        refine s_c hS (sg (sp_move (od rfl))) rfl fun a w hS hM => ?_
        refine s_c hS (sg (sp_move (od rfl))) rfl fun a w hS hM => ?_
        refine s_c hS (sg (sp_buildSlice [.tmp 35] ([i_7] : List Int) sl39 ze3 rfl rfl rfl rfl ⟨od rfl, trivial⟩)) rfl fun a w hS hM => ?_
        refine s_append (k := 0) (Δ := [(1, isV (α := List Int) p1), (24, isV (α := List S_api_Turn) p0.2.2.2.2), (25, isV (α := Int) (p0.2.2.2.2.length : Int)), (26, isV (α := Int) i_7), (34, Pr.is u_13), (36, isV (α := List Int) ([i_7] : List Int))]) sl39 ze3 hS rfl ⟨od rfl, od rfl, od rfl, od rfl, od rfl, od rfl, trivial⟩ ⟨fun _ _ _ _ h => h, fun _ _ _ _ h => h, fun _ _ _ _ h => h, fun _ _ _ _ h => h, fun _ _ _ _ h => h, fun _ _ _ _ h => h, trivial⟩ (od rfl) (od rfl) e_23 rfl fun a w u_24 hS hM => ?_
        have hS : St _ F0 [Item.sl (α := Int) 3 u_24 z_22] _ w0 _ _ := hS
        refine s_c hS (sg (sp_assign (od rfl))) rfl fun a w hS hM => ?_
        refine l_end ?_
        cases h
        exact ⟨rfl, u_24, hS.weak ⟨od rfl, od rfl, od rfl, od rfl, od rfl, trivial⟩⟩
      have h := ite_f hb hj_19
      refine wp_skip ?_
      cases h
      exact ⟨rfl, u_13, hS.weak ⟨od rfl, od rfl, od rfl, od rfl, od rfl, trivial⟩⟩
    rintro e a w ⟨rfl, u_21, hS⟩
    refine exit_block ?_
    refine et ?_
    refine st_reg mixed (by kernel_rfl) hS ?_
    refine cg (sp_add (od rfl) (odi)) ?_
    refine mv rfl ?_
    refine sn fun a w hS => ?_
    cases h
    exact ⟨k_10, _, _, u_21, rfl, hF_10, hS.weak ⟨od rfl, od rfl, od rfl, od rfl, od (congrArg (fun z => some (isV (α := Int) z)) hw_10), trivial⟩⟩
  refine wp_exit ?_
  obtain rfl := (fors_done hF_10 hb).symm
  have h := hr_12
  refine exit_thenE ?_
  refine exit_thenE ?_
  refine exit_here ?_
  refine et ?_
  refine ws ?_
  refine st_reg mixed (by kernel_rfl) hS ?_
  refine mv rfl ?_
  refine cg (sp_assign (od rfl)) ?_
  refine cg (sp_assign (odi)) ?_
  refine sn fun a w hS => ?_
  refine et ?_
  refine wp_ret ?_
  have hS0 := hS
  have hS := st_freeze 0 4 hS rfl rfl
  have hS := st_also (t := 4) (q := 7) hS0 hS rfl rfl rfl
  have hS := st_also (t := 4) (q := 39) hS0 hS rfl rfl rfl
  cases h
  exact st_ret hS (run_results2 Tryz.results13 a w) (⟨_, rfl, hS.get rfl, hS.get rfl, trivial⟩)

end Go.Proofs.YtnnhmgcigoiceaaGreatDoor
