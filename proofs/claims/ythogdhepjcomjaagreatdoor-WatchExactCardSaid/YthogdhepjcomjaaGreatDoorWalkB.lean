/-
  What is proved: each Go function named here returns what its model tells, and changes nothing that was there; where the model tells something.
-/
import Derived.Test.YthogdhepjcomjaaGreatDoorWalkA
import Derived.Test.YthogdhepjcomjaaGreatDoorModelE
set_option linter.unusedVariables false
set_option maxRecDepth 100000
namespace Go.Proofs.YthogdhepjcomjaaGreatDoor
open Go Go.RowKit Go.Proofs.YthogdhepjcomjaaGreatDoor.Wh

theorem f146_ok {p0 : Int} {c0 : S_api_Roster} {r : Bool} (h : M.f146 p0 c0 = some r) : CallOK Tryz.prog 146 [isV p0, isA c0] (isV r) := by
  unfold M.f146 at h
  refine callS_of Tryz.func146 rfl Tryz.ntmps146 rfl fun F0 w0 a hS => ?_
  refine ws ?_
  refine st_reg mixed (by kernel_rfl) hS ?_
  refine cg (sp_assign (odb)) ?_
  refine sn fun a w hS => ?_
  refine et ?_
  refine ws ?_
  obtain ⟨v_1, e_2, h⟩ := bind_some h
  refine st_reg mixed (by kernel_rfl) hS ?_
  refine mv rfl ?_
  refine cg (sp_fieldAddr fd25_4 (od rfl)) ?_
  refine cg (sp_load ty23 (od rfl)) ?_
  refine cg (sp_len Tryz.underlying23 (od rfl)) ?_
  refine cg (sp_sub (od rfl) (odi)) ?_
  refine cg (sp_call en99 (f99_ok e_2) ⟨od rfl, odi, od rfl, trivial⟩) ?_
  refine cg (sp_not (od rfl)) ?_
  refine cg (sp_assign (od rfl)) ?_
  refine sn fun a w hS => ?_
  refine et ?_
  refine wp_ret ?_
  cases h
  exact st_ret hS (run_results1 Tryz.results146 a w) (hS.get rfl)

theorem f119_ok {p0 : List Int} {p1 : (Int → Option Bool)} {r : Int} (h : M.f119 p0 p1 = some r) : CallOK Tryz.prog 119 [isV p0, isV p1] (isV r) := by
  unfold M.f119 at h
  refine callS_of Tryz.func119 rfl Tryz.ntmps119 rfl fun F0 w0 a hS => ?_
  refine ws ?_
  refine st_reg mixed (by kernel_rfl) hS ?_
  refine cg (sp_assign (odi)) ?_
  refine sn fun a w hS => ?_
  refine et ?_
  refine ws ?_
  refine ws ?_
  refine st_reg mixed (by kernel_rfl) hS ?_
  refine mv rfl ?_
  refine cg (sp_len Tryz.underlying26 (od rfl)) ?_
  refine cg (sp_move (odi)) ?_
  refine sn fun a w hS => ?_
  refine et ?_
  refine wp_block ?_
  obtain ⟨o_4, e_5, hr_6⟩ := bind_some h
  refine c_loop (fun K a w => ∃ k i_1 s_3, K = k + 1 ∧ ForI _ _ _ o_4 k i_1 s_3 ∧ St 19 F0 [] [(0, isV (α := List Int) p0), (1, isV (α := (Int → Option Bool)) p1), (7, isV (α := Int) (p0.length : Int)), (8, isV (α := Int) i_1)] w0 a w) ?_ ?_ ⟨_, _, _, rfl, for_init e_5, hS.weak ⟨od rfl, od rfl, od rfl, od rfl, trivial⟩⟩
  · rintro a w ⟨_, _, _, hk, _⟩; cases hk
  rintro K a w ⟨k_4, i_1, s_3, hk, hF_4, hS⟩
  obtain rfl := Nat.succ.inj hk
  refine ws ?_
  refine st_reg mixed (by kernel_rfl) hS ?_
  refine cg (sp_lss (od rfl) (od rfl)) ?_
  refine sn fun a w hS => ?_
  refine et ?_
  refine ws ?_
  refine st_cond hS rfl (fun hb => ?_) (fun hb => ?_)
  · refine wp_skip ?_
    refine et ?_
    obtain ⟨k_4, o, rfl, h, hN_4, hL_4, hw_4⟩ := for_more hF_4 hb
    refine ws ?_
    refine wp_block ?_
    refine ws ?_
    refine st_reg mixed (by kernel_rfl) hS ?_
    refine mv rfl ?_
    refine cg (sp_assign (od rfl)) ?_
    refine sn fun a w hS => ?_
    refine et ?_
    refine ws ?_
    obtain ⟨v_7, e_8, h⟩ := bind_some h
    obtain ⟨v_9, e_10, h⟩ := bind_some h
    refine st_reg mixed (by kernel_rfl) hS ?_
    refine mv rfl ?_
    refine mv rfl ?_
    refine mv rfl ?_
    refine cg (sp_indexAddr sl26 (od rfl) (od rfl) e_8) ?_
    refine cg (sp_load ty3 (od rfl)) ?_
    refine cg (sp_callV (od_fn55 (od rfl)) ⟨od rfl, trivial⟩ e_10) ?_
    refine sn fun a w hS => ?_
    refine et ?_
    refine st_cond hS rfl (fun hb => ?_) (fun hb => ?_)
    · have h := ite_t hb h
      refine ws ?_
      refine st_reg mixed (by kernel_rfl) hS ?_
      refine mv rfl ?_
      refine cg (sp_assign (od rfl)) ?_
      refine sn fun a w hS => ?_
      refine et ?_
      refine wp_ret ?_
      refine exit_blockR ?_
      refine exit_thenR ?_
      cases h
      obtain rfl := hL_4 _ rfl
      have h := (elim_leave hr_6)
      refine exit_thenR ?_
      refine exit_blockR ?_
      refine exit_thenR ?_
      cases h
      exact st_ret hS (run_results1 Tryz.results119 a w) (hS.get rfl)
    have h := ite_f hb h
    refine wp_skip ?_
    refine exit_block ?_
    refine et ?_
    refine st_reg mixed (by kernel_rfl) hS ?_
    refine cg (sp_add (od rfl) (odi)) ?_
    refine mv rfl ?_
    refine sn fun a w hS => ?_
    cases h
    exact ⟨k_4, _, _, rfl, hN_4 _ rfl, hS.weak ⟨od rfl, od rfl, od rfl, od (congrArg (fun z => some (isV (α := Int) z)) hw_4), trivial⟩⟩
  refine wp_exit ?_
  obtain rfl := for_done hF_4 hb
  have h := elim_again hr_6
  refine exit_thenE ?_
  refine exit_thenE ?_
  refine exit_here ?_
  refine et ?_
  refine ws ?_
  refine st_reg mixed (by kernel_rfl) hS ?_
  refine cg (sp_assign (odi)) ?_
  refine sn fun a w hS => ?_
  refine et ?_
  refine wp_ret ?_
  cases h
  exact st_ret hS (run_results1 Tryz.results119 a w) (hS.get rfl)

theorem f42_ok {p0 : List Int} {p1 : (Int → Option Bool)} {r : Bool} (h : M.f42 p0 p1 = some r) : CallOK Tryz.prog 42 [isV p0, isV p1] (isV r) := by
  unfold M.f42 at h
  refine callS_of Tryz.func42 rfl Tryz.ntmps42 rfl fun F0 w0 a hS => ?_
  refine ws ?_
  refine st_reg mixed (by kernel_rfl) hS ?_
  refine cg (sp_assign (odb)) ?_
  refine sn fun a w hS => ?_
  refine et ?_
  refine ws ?_
  obtain ⟨v_1, e_2, h⟩ := bind_some h
  refine st_reg mixed (by kernel_rfl) hS ?_
  refine mv rfl ?_
  refine mv rfl ?_
  refine cg (sp_call en119 (f119_ok e_2) ⟨od rfl, od rfl, trivial⟩) ?_
  refine cg (sp_geq (od rfl) (odi)) ?_
  refine cg (sp_assign (od rfl)) ?_
  refine sn fun a w hS => ?_
  refine et ?_
  refine wp_ret ?_
  cases h
  exact st_ret hS (run_results1 Tryz.results42 a w) (hS.get rfl)

theorem f85_ok {p0 : S_api_Roster} {p1 : List Int} {r : Int} (h : M.f85 p0 p1 = some r) : CallOK Tryz.prog 85 [isV p0, isV p1] (isV r) := by
  unfold M.f85 at h
  refine callS_of Tryz.func85 rfl Tryz.ntmps85 rfl fun F0 w0 a hS => ?_
  refine ws ?_
  refine st_reg mixed (by kernel_rfl) hS ?_
  refine cg (sp_box (od rfl)) ?_
  refine cg (sp_assign (odi)) ?_
  refine sn fun a w hS => ?_
  refine et ?_
  refine ws ?_
  refine ws ?_
  obtain ⟨v_1, e_2, h⟩ := bind_some h
  refine st_reg mixed (by kernel_rfl) hS ?_
  refine cg (sp_load ty25 (od rfl)) ?_
  refine cg (sp_call en47 (f47_ok e_2) ⟨od rfl, trivial⟩) ?_
  refine cg (sp_assign (od rfl)) ?_
  refine sn fun a w hS => ?_
  refine et ?_
  refine ws ?_
  refine st_reg mixed (by kernel_rfl) hS ?_
  refine mv rfl ?_
  refine cg (sp_neq (od rfl) (odi)) ?_
  refine sn fun a w hS => ?_
  refine et ?_
  refine st_cond hS rfl (fun hb => ?_) (fun hb => ?_)
  · have h := ite_t hb h
    refine ws ?_
    refine st_reg mixed (by kernel_rfl) hS ?_
    refine mv rfl ?_
    refine cg (sp_assign (od rfl)) ?_
    refine sn fun a w hS => ?_
    refine et ?_
    refine wp_ret ?_
    refine exit_thenR ?_
    cases h
    exact st_ret hS (run_results1 Tryz.results85 a w) (hS.get rfl)
  have h := ite_f hb h
  refine wp_skip ?_
  refine et ?_
  refine ws ?_
  refine ws ?_
  obtain ⟨v_3, e_4, h⟩ := bind_some h
  refine st_reg mixed (by kernel_rfl) hS ?_
  refine mv rfl ?_
  refine cg (mk_fn55 (f := (fun x0 => M.f146 x0 p0)) (κs := [isA (α := S_api_Roster) p0]) ⟨fun _ _ _ _ h => h, trivial⟩ en146 ⟨od rfl, trivial⟩ (fun _ _ h => f146_ok h)) ?_
  refine cg (sp_call en42 (f42_ok e_4) ⟨od rfl, od rfl, trivial⟩) ?_
  refine sn fun a w hS => ?_
  refine et ?_
  refine st_cond hS rfl (fun hb => ?_) (fun hb => ?_)
  · have h := ite_t hb h
    refine ws ?_
    refine st_reg mixed (by kernel_rfl) hS ?_
    refine cg (sp_assign (odi)) ?_
    refine sn fun a w hS => ?_
    refine et ?_
    refine wp_ret ?_
    refine exit_thenR ?_
    cases h
    exact st_ret hS (run_results1 Tryz.results85 a w) (hS.get rfl)
  have h := ite_f hb h
  refine wp_skip ?_
  refine et ?_
  refine ws ?_
  refine st_reg mixed (by kernel_rfl) hS ?_
  refine cg (sp_assign (odi)) ?_
  refine sn fun a w hS => ?_
  refine et ?_
  refine wp_ret ?_
  cases h
  exact st_ret hS (run_results1 Tryz.results85 a w) (hS.get rfl)

theorem f148_ok {p0 : S_api_Roster} {p1 : Int} {p2 : Int} {p3 : Int} {p4 : Int} {r : S_watch_lag} (h : M.f148 p0 p1 p2 p3 p4 = some r) : CallOK Tryz.prog 148 [isV p0, isV p1, isV p2, isV p3, isV p4] (isV r) := by
  unfold M.f148 at h
  refine callS_of Tryz.func148 rfl Tryz.ntmps148 rfl fun F0 w0 a hS => ?_
  refine ws ?_
  refine l_start ?_
  refine s_c hS (sg (sp_box (od rfl))) rfl fun a w hS hM => ?_
  refine s_alloc zi95 hS rfl fun a w b_1 hS hM => ?_
  have hS : St _ F0 [Item.box (α := S_watch_lag) 95 b_1 ((0, false) : S_watch_lag)] _ w0 _ _ := hS
  refine l_end ?_
  refine et ?_
  refine ws ?_
  obtain ⟨v_2, e_3, h⟩ := bind_some h
  obtain ⟨v_4, e_5, h⟩ := bind_some h
  refine l_start ?_
  refine s_c hS (sg (sp_move (od rfl))) rfl fun a w hS hM => ?_
  refine s_c hS (sg (sp_move (od rfl))) rfl fun a w hS hM => ?_
  refine s_c hS (sg (sp_sub (od rfl) (od rfl))) rfl fun a w hS hM => ?_
  refine s_c hS (sg (sp_fieldAddr fd25_3 (od rfl))) rfl fun a w hS hM => ?_
  refine s_c hS (sg (sp_load ty22 (od rfl))) rfl fun a w hS hM => ?_
  refine s_c hS (sg (sp_move (od rfl))) rfl fun a w hS hM => ?_
  refine s_c hS (sg (sp_indexAddr sl22 (od rfl) (od rfl) e_3)) rfl fun a w hS hM => ?_
  refine s_c hS (sg (sp_load ty26 (od rfl))) rfl fun a w hS hM => ?_
  refine s_c hS (sg (sp_move (od rfl))) rfl fun a w hS hM => ?_
  refine s_c hS (sg (sp_indexAddr sl26 (od rfl) (od rfl) e_5)) rfl fun a w hS hM => ?_
  refine s_c hS (sg (sp_load ty3 (od rfl))) rfl fun a w hS hM => ?_
  refine s_c hS (sg (sp_add (od rfl) (od rfl))) rfl fun a w hS hM => ?_
  refine s_c hS (sg (sp_move (od rfl))) rfl fun a w hS hM => ?_
  refine s_c hS (sg (sp_move (od rfl))) rfl fun a w hS hM => ?_
  refine s_c hS (sg (sp_eql (od rfl) (od rfl))) rfl fun a w hS hM => ?_
  refine s_c hS (sg (bd95_01 (od rfl) (od rfl))) rfl fun a w hS hM => ?_
  refine s_storeB (k := 0) (Δ := [(10, Pr.ptr b_1), (26, isV (α := S_watch_lag) (((wr ((wr (p4 - p2)) + v_4)), (p1 == p3)) : S_watch_lag))]) ty95 hS rfl ⟨od rfl, od rfl, trivial⟩ ⟨fun _ _ _ _ h => h, fun _ _ _ _ h => h, trivial⟩ rfl (od rfl) fun w hS hM => ?_
  have hS : St _ F0 [Item.box (α := S_watch_lag) 95 b_1 (((wr ((wr (p4 - p2)) + v_4)), (p1 == p3)) : S_watch_lag)] _ w0 _ _ := hS
  have hS := st_freezeB 0 10 hS rfl rfl
  refine l_end ?_
  refine et ?_
  refine wp_ret ?_
  cases h
  obtain ⟨v, hr, hv⟩ := run_resC1 Tryz.results148 ty95 (hS.get rfl)
  exact st_ret hS hr hv

theorem f92_ok {p0 : S_api_Roster} {p1 : Int} {r : S_watch_lag} (h : M.f92 p0 p1 = some r) : CallOK Tryz.prog 92 [isV p0, isV p1] (isV r) := by
  unfold M.f92 at h
  refine callS_of Tryz.func92 rfl Tryz.ntmps92 rfl fun F0 w0 a hS => ?_
  refine ws ?_
  refine l_start ?_
  refine s_c hS (sg (sp_box (od rfl))) rfl fun a w hS hM => ?_
  refine s_alloc zi95 hS rfl fun a w b_1 hS hM => ?_
  have hS : St _ F0 [Item.box (α := S_watch_lag) 95 b_1 ((0, false) : S_watch_lag)] _ w0 _ _ := hS
  refine l_end ?_
  refine et ?_
  refine ws ?_
  obtain ⟨v_2, e_3, h⟩ := bind_some h
  refine l_start ?_
  refine s_c hS (sg (sp_fieldAddr fd25_4 (od rfl))) rfl fun a w hS hM => ?_
  refine s_c hS (sg (sp_load ty23 (od rfl))) rfl fun a w hS hM => ?_
  refine s_c hS (sg (sp_move (od rfl))) rfl fun a w hS hM => ?_
  refine s_c hS (sg (sp_indexAddr sl23 (od rfl) (od rfl) e_3)) rfl fun a w hS hM => ?_
  refine s_c hS (sg (sp_load ty45 (od rfl))) rfl fun a w hS hM => ?_
  refine s_allocStore ze45 hS (od rfl) (fun k hk => by cases hk; rfl) rfl fun a w hS hM => ?_
  refine l_end ?_
  refine et ?_
  refine ws ?_
  obtain ⟨v_4, e_5, h⟩ := bind_some h
  refine l_start ?_
  refine s_c hS (sg (sp_load ty25 (od rfl))) rfl fun a w hS hM => ?_
  refine s_c hS (sg (sp_fieldAddr fd25_1 (od rfl))) rfl fun a w hS hM => ?_
  refine s_c hS (sg (sp_load ty3 (od rfl))) rfl fun a w hS hM => ?_
  refine s_c hS (sg (sp_fieldAddr fd45_1 (od rfl))) rfl fun a w hS hM => ?_
  refine s_c hS (sg (sp_load ty3 (od rfl))) rfl fun a w hS hM => ?_
  refine s_c hS (sg (sp_fieldAddr fd45_2 (od rfl))) rfl fun a w hS hM => ?_
  refine s_c hS (sg (sp_load ty3 (od rfl))) rfl fun a w hS hM => ?_
  refine s_c hS (sg (sp_call en148 (f148_ok e_5) ⟨od rfl, odi, od rfl, od rfl, od rfl, trivial⟩)) rfl fun a w hS hM => ?_
  refine s_storeB (k := 0) (Δ := [(4, Pr.ptr b_1), (18, isV (α := S_watch_lag) v_4)]) ty95 hS rfl ⟨od rfl, od rfl, trivial⟩ ⟨fun _ _ _ _ h => h, fun _ _ _ _ h => h, trivial⟩ rfl (od rfl) fun w hS hM => ?_
  have hS : St _ F0 [Item.box (α := S_watch_lag) 95 b_1 v_4] _ w0 _ _ := hS
  have hS := st_freezeB 0 4 hS rfl rfl
  refine l_end ?_
  refine et ?_
  refine wp_ret ?_
  cases h
  obtain ⟨v, hr, hv⟩ := run_resC1 Tryz.results92 ty95 (hS.get rfl)
  exact st_ret hS hr hv

theorem f93_ok {p0 : S_watch_lag} {r : Bool} (h : M.f93 p0 = some r) : CallOK Tryz.prog 93 [isV p0] (isV r) := by
  unfold M.f93 at h
  refine callS_of Tryz.func93 rfl Tryz.ntmps93 rfl fun F0 w0 a hS => ?_
  refine ws ?_
  refine st_reg mixed (by kernel_rfl) hS ?_
  refine cg (sp_box (od rfl)) ?_
  refine cg (sp_assign (odb)) ?_
  refine sn fun a w hS => ?_
  refine et ?_
  refine ws ?_
  refine st_reg mixed (by kernel_rfl) hS ?_
  refine cg (sp_fieldAddr fd95_0 (od rfl)) ?_
  refine cg (sp_load ty3 (od rfl)) ?_
  refine cg (sp_leq (od rfl) (odi)) ?_
  refine cg (sp_assign (od rfl)) ?_
  refine sn fun a w hS => ?_
  refine et ?_
  refine wp_ret ?_
  cases h
  exact st_ret hS (run_results1 Tryz.results93 a w) (hS.get rfl)

theorem f36_ok {p0 : S_api_Roster} {p1 : Int} {r : Bool × Int} (h : M.f36 p0 p1 = some r) : CallOK Tryz.prog 36 [isV p0, isV p1] (isTup [isV r.1, isV r.2]) := by
  unfold M.f36 at h
  refine callS_of Tryz.func36 rfl Tryz.ntmps36 rfl fun F0 w0 a hS => ?_
  refine ws ?_
  refine st_reg mixed (by kernel_rfl) hS ?_
  refine cg (sp_box (od rfl)) ?_
  refine cg (sp_assign (odb)) ?_
  refine cg (sp_assign (odi)) ?_
  refine sn fun a w hS => ?_
  refine et ?_
  refine ws ?_
  refine ws ?_
  obtain ⟨v_1, e_2, h⟩ := bind_some h
  refine st_reg mixed (by kernel_rfl) hS ?_
  refine cg (sp_load ty25 (od rfl)) ?_
  refine mv rfl ?_
  refine cg (sp_buildSlice [.tmp 8] ([p1] : List Int) sl26 ze3 rfl rfl rfl rfl ⟨od rfl, trivial⟩) ?_
  refine cg (sp_call en85 (f85_ok e_2) ⟨od rfl, od rfl, trivial⟩) ?_
  refine cg (sp_assign (od rfl)) ?_
  refine sn fun a w hS => ?_
  refine et ?_
  refine ws ?_
  refine st_reg mixed (by kernel_rfl) hS ?_
  refine mv rfl ?_
  refine cg (sp_neq (od rfl) (odi)) ?_
  refine sn fun a w hS => ?_
  refine et ?_
  refine st_cond hS rfl (fun hb => ?_) (fun hb => ?_)
  · have h := ite_t hb h
    refine ws ?_
    refine st_reg mixed (by kernel_rfl) hS ?_
    refine mv rfl ?_
    refine cg (sp_assign (odb)) ?_
    refine cg (sp_assign (od rfl)) ?_
    refine sn fun a w hS => ?_
    refine et ?_
    refine wp_ret ?_
    refine exit_thenR ?_
    cases h
    exact st_ret hS (run_results2 Tryz.results36 a w) (⟨_, rfl, hS.get rfl, hS.get rfl, trivial⟩)
  have h := ite_f hb h
  refine wp_skip ?_
  refine et ?_
  refine ws ?_
  obtain ⟨v_3, e_4, h⟩ := bind_some h
  obtain ⟨v_5, e_6, h⟩ := bind_some h
  refine st_reg mixed (by kernel_rfl) hS ?_
  refine cg (sp_load ty25 (od rfl)) ?_
  refine mv rfl ?_
  refine cg (sp_call en92 (f92_ok e_4) ⟨od rfl, od rfl, trivial⟩) ?_
  refine cg (sp_call en93 (f93_ok e_6) ⟨od rfl, trivial⟩) ?_
  refine cg (sp_assign (od rfl)) ?_
  refine cg (sp_assign (odi)) ?_
  refine sn fun a w hS => ?_
  refine et ?_
  refine wp_ret ?_
  cases h
  exact st_ret hS (run_results2 Tryz.results36 a w) (⟨_, rfl, hS.get rfl, hS.get rfl, trivial⟩)

theorem f149_ok {p0 : S_api_Roster} {p1 : Int} {p2 : Int} {r : S_watch_lag} (h : M.f149 p0 p1 p2 = some r) : CallOK Tryz.prog 149 [isV p0, isV p1, isV p2] (isV r) := by
  unfold M.f149 at h
  refine callS_of Tryz.func149 rfl Tryz.ntmps149 rfl fun F0 w0 a hS => ?_
  refine ws ?_
  refine l_start ?_
  refine s_c hS (sg (sp_box (od rfl))) rfl fun a w hS hM => ?_
  refine s_alloc zi95 hS rfl fun a w b_1 hS hM => ?_
  have hS : St _ F0 [Item.box (α := S_watch_lag) 95 b_1 ((0, false) : S_watch_lag)] _ w0 _ _ := hS
  refine l_end ?_
  refine et ?_
  refine ws ?_
  obtain ⟨v_2, e_3, h⟩ := bind_some h
  obtain ⟨v_4, e_5, h⟩ := bind_some h
  have hS := hS.weak (Δ := [(0, isV (α := S_api_Roster) p0), (1, isV (α := Int) p1), (2, isV (α := Int) p2), (3, isA (α := S_api_Roster) p0), (6, Pr.ptr b_1)]) ⟨od rfl, od rfl, od rfl, od rfl, od rfl, trivial⟩
  refine st_pairs mixed [0, 0, 0, 0, 0, 0, 0, 0, 0, 0, 3, 3, 4, 4] [⟨10, 12, 7, 45, S_api_Turn, inferInstance, ((0, 0, 0, 0, 0, 0) : S_api_Turn), v_2⟩, ⟨11, 13, 8, 45, S_api_Turn, inferInstance, ((0, 0, 0, 0, 0, 0) : S_api_Turn), v_4⟩] (by kernel_rfl) (by kernel_rfl) hS ⟨fun _ _ _ _ h => h, fun _ _ _ _ h => h, fun _ _ _ _ h => h, fun _ _ _ _ h => h, fun _ _ _ _ h => h, trivial⟩ ?_
  refine sq0 (fun _ _ _ _ h => h) (sg (sp_fieldAddr fd25_4 (od rfl))) ?_
  refine sq0 (fun _ _ _ _ h => h) (sg (sp_load ty23 (od rfl))) ?_
  refine sq0 (fun _ _ _ _ h => h) (sg (sp_move (od rfl))) ?_
  refine sq0 (fun _ _ _ _ h => h) (sg (sp_indexAddr sl23 (od rfl) (od rfl) e_3)) ?_
  refine sq0 (fun _ _ _ _ h => h) (sg (sp_load ty45 (od rfl))) ?_
  refine sq0 (fun _ _ _ _ h => h) (sg (sp_fieldAddr fd25_4 (od rfl))) ?_
  refine sq0 (fun _ _ _ _ h => h) (sg (sp_load ty23 (od rfl))) ?_
  refine sq0 (fun _ _ _ _ h => h) (sg (sp_move (od rfl))) ?_
  refine sq0 (fun _ _ _ _ h => h) (sg (sp_indexAddr sl23 (od rfl) (od rfl) e_5)) ?_
  refine sq0 (fun _ _ _ _ h => h) (sg (sp_load ty45 (od rfl))) ?_
  refine sqA 0 rfl zi45 ?_
  refine sqA 1 rfl zi45 ?_
  refine sqS 0 rfl ty45 (od rfl) ?_
  refine sqS 1 rfl ty45 (od rfl) ?_
  refine sqN fun a w bs hl hS => ?_
  obtain ⟨b_6, b_7, rfl⟩ := len2 hl
  have hS : St _ F0 [Item.box (α := S_watch_lag) 95 b_1 ((0, false) : S_watch_lag), Item.box (α := S_api_Turn) 45 b_6 (v_2 : S_api_Turn), Item.box (α := S_api_Turn) 45 b_7 (v_4 : S_api_Turn)] ((7, Pr.ptr b_6) :: (8, Pr.ptr b_7) :: _) w0 _ _ := hS
  have hS := st_freezeB 1 7 hS rfl rfl
  have hS := st_freezeB 1 8 hS rfl rfl
  refine et ?_
  refine ws ?_
  obtain ⟨v_8, e_9, h⟩ := bind_some h
  refine l_start ?_
  refine s_c hS (sg (sp_load ty25 (od rfl))) rfl fun a w hS hM => ?_
  refine s_c hS (sg (sp_fieldAddr fd45_3 (od rfl))) rfl fun a w hS hM => ?_
  refine s_c hS (sg (sp_load ty3 (od rfl))) rfl fun a w hS hM => ?_
  refine s_c hS (sg (sp_fieldAddr fd45_4 (od rfl))) rfl fun a w hS hM => ?_
  refine s_c hS (sg (sp_load ty3 (od rfl))) rfl fun a w hS hM => ?_
  refine s_c hS (sg (sp_fieldAddr fd45_1 (od rfl))) rfl fun a w hS hM => ?_
  refine s_c hS (sg (sp_load ty3 (od rfl))) rfl fun a w hS hM => ?_
  refine s_c hS (sg (sp_fieldAddr fd45_2 (od rfl))) rfl fun a w hS hM => ?_
  refine s_c hS (sg (sp_load ty3 (od rfl))) rfl fun a w hS hM => ?_
  refine s_c hS (sg (sp_call en148 (f148_ok e_9) ⟨od rfl, od rfl, od rfl, od rfl, od rfl, trivial⟩)) rfl fun a w hS hM => ?_
  refine s_storeB (k := 0) (Δ := [(6, Pr.ptr b_1), (28, isV (α := S_watch_lag) v_8)]) ty95 hS rfl ⟨od rfl, od rfl, trivial⟩ ⟨fun _ _ _ _ h => h, fun _ _ _ _ h => h, trivial⟩ rfl (od rfl) fun w hS hM => ?_
  have hS : St _ F0 [Item.box (α := S_watch_lag) 95 b_1 v_8] _ w0 _ _ := hS
  have hS := st_freezeB 0 6 hS rfl rfl
  refine l_end ?_
  refine et ?_
  refine wp_ret ?_
  cases h
  obtain ⟨v, hr, hv⟩ := run_resC1 Tryz.results149 ty95 (hS.get rfl)
  exact st_ret hS hr hv

theorem f95_ok {p0 : S_api_Roster} {p1 : Int} {p2 : Int} {r : Bool} (h : M.f95 p0 p1 p2 = some r) : CallOK Tryz.prog 95 [isV p0, isV p1, isV p2] (isV r) := by
  unfold M.f95 at h
  refine callS_of Tryz.func95 rfl Tryz.ntmps95 rfl fun F0 w0 a hS => ?_
  refine ws ?_
  refine st_reg mixed (by kernel_rfl) hS ?_
  refine cg (sp_box (od rfl)) ?_
  refine cg (sp_assign (odb)) ?_
  refine sn fun a w hS => ?_
  refine et ?_
  refine ws ?_
  obtain ⟨v_1, e_2, h⟩ := bind_some h
  obtain ⟨v_3, e_4, h⟩ := bind_some h
  obtain ⟨v_5, e_6, h⟩ := bind_some h
  obtain ⟨v_7, e_8, h⟩ := bind_some h
  refine st_reg mixed (by kernel_rfl) hS ?_
  refine mv rfl ?_
  refine mv rfl ?_
  refine cg (sp_neq (od rfl) (od rfl)) ?_
  refine mv rfl ?_
  refine sc (sgT rfl fun hG => sp_fieldAddr fd25_4 (od rfl)) ?_
  refine sc (sgT rfl fun hG => sp_load ty23 (odw rfl hG)) ?_
  refine sc (sgT rfl fun hG => sp_move (od rfl)) ?_
  refine sc (sgT rfl fun hG => sp_indexAddr sl23 (odw rfl hG) (odw rfl hG) (guard_some e_2 hG)) ?_
  refine sc (sgT rfl fun hG => sp_fieldAddr fd45_0 (odw rfl hG)) ?_
  refine sc (sgT rfl fun hG => sp_load ty3 (odw rfl hG)) ?_
  refine sc (sgT rfl fun hG => sp_fieldAddr fd25_4 (od rfl)) ?_
  refine sc (sgT rfl fun hG => sp_load ty23 (odw rfl hG)) ?_
  refine sc (sgT rfl fun hG => sp_move (od rfl)) ?_
  refine sc (sgT rfl fun hG => sp_indexAddr sl23 (odw rfl hG) (odw rfl hG) (guard_some e_4 hG)) ?_
  refine sc (sgT rfl fun hG => sp_fieldAddr fd45_0 (odw rfl hG)) ?_
  refine sc (sgT rfl fun hG => sp_load ty3 (odw rfl hG)) ?_
  refine sc (sgT rfl fun hG => sp_eql (odw rfl hG) (odw rfl hG)) ?_
  refine cg (sp_pickAnd (od rfl) fun hg => odw rfl hg) ?_
  refine mv rfl ?_
  refine sc (sgT rfl fun hG => sp_load ty25 (od rfl)) ?_
  refine sc (sgT rfl fun hG => sp_move (od rfl)) ?_
  refine sc (sgT rfl fun hG => sp_move (od rfl)) ?_
  refine sc (sgT rfl fun hG => sp_call en149 (f149_ok (guard_some e_6 hG)) ⟨odw rfl hG, odw rfl hG, odw rfl hG, trivial⟩) ?_
  refine sc (sgT rfl fun hG => sp_call en93 (f93_ok (guard_some e_8 hG)) ⟨odw rfl hG, trivial⟩) ?_
  refine cg (sp_pickAnd (od rfl) fun hg => odw rfl hg) ?_
  refine cg (sp_assign (od rfl)) ?_
  refine sn fun a w hS => ?_
  refine et ?_
  refine wp_ret ?_
  cases h
  exact st_ret hS (run_results1 Tryz.results95 a w) (hS.get rfl)

theorem f38_ok {p0 : S_api_Roster} {p1 : Int} {p2 : Int} {r : Bool × Int} (h : M.f38 p0 p1 p2 = some r) : CallOK Tryz.prog 38 [isV p0, isV p1, isV p2] (isTup [isV r.1, isV r.2]) := by
  unfold M.f38 at h
  refine callS_of Tryz.func38 rfl Tryz.ntmps38 rfl fun F0 w0 a hS => ?_
  refine ws ?_
  refine st_reg mixed (by kernel_rfl) hS ?_
  refine cg (sp_box (od rfl)) ?_
  refine cg (sp_assign (odb)) ?_
  refine cg (sp_assign (odi)) ?_
  refine sn fun a w hS => ?_
  refine et ?_
  refine ws ?_
  refine ws ?_
  obtain ⟨v_1, e_2, h⟩ := bind_some h
  refine st_reg mixed (by kernel_rfl) hS ?_
  refine cg (sp_load ty25 (od rfl)) ?_
  refine mv rfl ?_
  refine mv rfl ?_
  refine cg (sp_buildSlice [.tmp 10, .tmp 11] ([p1, p2] : List Int) sl26 ze3 rfl rfl rfl rfl ⟨od rfl, od rfl, trivial⟩) ?_
  refine cg (sp_call en85 (f85_ok e_2) ⟨od rfl, od rfl, trivial⟩) ?_
  refine cg (sp_assign (od rfl)) ?_
  refine sn fun a w hS => ?_
  refine et ?_
  refine ws ?_
  refine st_reg mixed (by kernel_rfl) hS ?_
  refine mv rfl ?_
  refine cg (sp_neq (od rfl) (odi)) ?_
  refine sn fun a w hS => ?_
  refine et ?_
  refine st_cond hS rfl (fun hb => ?_) (fun hb => ?_)
  · have h := ite_t hb h
    refine ws ?_
    refine st_reg mixed (by kernel_rfl) hS ?_
    refine mv rfl ?_
    refine cg (sp_assign (odb)) ?_
    refine cg (sp_assign (od rfl)) ?_
    refine sn fun a w hS => ?_
    refine et ?_
    refine wp_ret ?_
    refine exit_thenR ?_
    cases h
    exact st_ret hS (run_results2 Tryz.results38 a w) (⟨_, rfl, hS.get rfl, hS.get rfl, trivial⟩)
  have h := ite_f hb h
  refine wp_skip ?_
  refine et ?_
  refine ws ?_
  obtain ⟨v_3, e_4, h⟩ := bind_some h
  refine st_reg mixed (by kernel_rfl) hS ?_
  refine cg (sp_load ty25 (od rfl)) ?_
  refine mv rfl ?_
  refine mv rfl ?_
  refine cg (sp_call en95 (f95_ok e_4) ⟨od rfl, od rfl, od rfl, trivial⟩) ?_
  refine cg (sp_assign (od rfl)) ?_
  refine cg (sp_assign (odi)) ?_
  refine sn fun a w hS => ?_
  refine et ?_
  refine wp_ret ?_
  cases h
  exact st_ret hS (run_results2 Tryz.results38 a w) (⟨_, rfl, hS.get rfl, hS.get rfl, trivial⟩)

theorem f102_ok {p0 : S_api_Roster} {p1 : Int} {r : S_watch_lag} (h : M.f102 p0 p1 = some r) : CallOK Tryz.prog 102 [isV p0, isV p1] (isV r) := by
  unfold M.f102 at h
  refine callS_of Tryz.func102 rfl Tryz.ntmps102 rfl fun F0 w0 a hS => ?_
  refine ws ?_
  refine l_start ?_
  refine s_c hS (sg (sp_box (od rfl))) rfl fun a w hS hM => ?_
  refine s_alloc zi95 hS rfl fun a w b_1 hS hM => ?_
  have hS : St _ F0 [Item.box (α := S_watch_lag) 95 b_1 ((0, false) : S_watch_lag)] _ w0 _ _ := hS
  refine l_end ?_
  refine et ?_
  refine ws ?_
  obtain ⟨v_2, e_3, h⟩ := bind_some h
  refine l_start ?_
  refine s_c hS (sg (sp_fieldAddr fd25_4 (od rfl))) rfl fun a w hS hM => ?_
  refine s_c hS (sg (sp_load ty23 (od rfl))) rfl fun a w hS hM => ?_
  refine s_c hS (sg (sp_move (od rfl))) rfl fun a w hS hM => ?_
  refine s_c hS (sg (sp_indexAddr sl23 (od rfl) (od rfl) e_3)) rfl fun a w hS hM => ?_
  refine s_c hS (sg (sp_load ty45 (od rfl))) rfl fun a w hS hM => ?_
  refine s_allocStore ze45 hS (od rfl) (fun k hk => by cases hk; rfl) rfl fun a w hS hM => ?_
  refine l_end ?_
  refine et ?_
  refine ws ?_
  obtain ⟨v_4, e_5, h⟩ := bind_some h
  refine l_start ?_
  refine s_c hS (sg (sp_load ty25 (od rfl))) rfl fun a w hS hM => ?_
  refine s_c hS (sg (sp_fieldAddr fd45_3 (od rfl))) rfl fun a w hS hM => ?_
  refine s_c hS (sg (sp_load ty3 (od rfl))) rfl fun a w hS hM => ?_
  refine s_c hS (sg (sp_fieldAddr fd45_4 (od rfl))) rfl fun a w hS hM => ?_
  refine s_c hS (sg (sp_load ty3 (od rfl))) rfl fun a w hS hM => ?_
  refine s_c hS (sg (sp_fieldAddr fd25_2 (od rfl))) rfl fun a w hS hM => ?_
  refine s_c hS (sg (sp_load ty3 (od rfl))) rfl fun a w hS hM => ?_
  refine s_c hS (sg (sp_call en148 (f148_ok e_5) ⟨od rfl, od rfl, od rfl, odi, od rfl, trivial⟩)) rfl fun a w hS hM => ?_
  refine s_storeB (k := 0) (Δ := [(4, Pr.ptr b_1), (18, isV (α := S_watch_lag) v_4)]) ty95 hS rfl ⟨od rfl, od rfl, trivial⟩ ⟨fun _ _ _ _ h => h, fun _ _ _ _ h => h, trivial⟩ rfl (od rfl) fun w hS hM => ?_
  have hS : St _ F0 [Item.box (α := S_watch_lag) 95 b_1 v_4] _ w0 _ _ := hS
  have hS := st_freezeB 0 4 hS rfl rfl
  refine l_end ?_
  refine et ?_
  refine wp_ret ?_
  cases h
  obtain ⟨v, hr, hv⟩ := run_resC1 Tryz.results102 ty95 (hS.get rfl)
  exact st_ret hS hr hv

theorem f37_ok {p0 : S_api_Roster} {p1 : Int} {r : Bool × Int} (h : M.f37 p0 p1 = some r) : CallOK Tryz.prog 37 [isV p0, isV p1] (isTup [isV r.1, isV r.2]) := by
  unfold M.f37 at h
  refine callS_of Tryz.func37 rfl Tryz.ntmps37 rfl fun F0 w0 a hS => ?_
  refine ws ?_
  refine st_reg mixed (by kernel_rfl) hS ?_
  refine cg (sp_box (od rfl)) ?_
  refine cg (sp_assign (odb)) ?_
  refine cg (sp_assign (odi)) ?_
  refine sn fun a w hS => ?_
  refine et ?_
  refine ws ?_
  refine ws ?_
  obtain ⟨v_1, e_2, h⟩ := bind_some h
  refine st_reg mixed (by kernel_rfl) hS ?_
  refine cg (sp_load ty25 (od rfl)) ?_
  refine mv rfl ?_
  refine cg (sp_buildSlice [.tmp 8] ([p1] : List Int) sl26 ze3 rfl rfl rfl rfl ⟨od rfl, trivial⟩) ?_
  refine cg (sp_call en85 (f85_ok e_2) ⟨od rfl, od rfl, trivial⟩) ?_
  refine cg (sp_assign (od rfl)) ?_
  refine sn fun a w hS => ?_
  refine et ?_
  refine ws ?_
  refine st_reg mixed (by kernel_rfl) hS ?_
  refine mv rfl ?_
  refine cg (sp_neq (od rfl) (odi)) ?_
  refine sn fun a w hS => ?_
  refine et ?_
  refine st_cond hS rfl (fun hb => ?_) (fun hb => ?_)
  · have h := ite_t hb h
    refine ws ?_
    refine st_reg mixed (by kernel_rfl) hS ?_
    refine mv rfl ?_
    refine cg (sp_assign (odb)) ?_
    refine cg (sp_assign (od rfl)) ?_
    refine sn fun a w hS => ?_
    refine et ?_
    refine wp_ret ?_
    refine exit_thenR ?_
    cases h
    exact st_ret hS (run_results2 Tryz.results37 a w) (⟨_, rfl, hS.get rfl, hS.get rfl, trivial⟩)
  have h := ite_f hb h
  refine wp_skip ?_
  refine et ?_
  refine ws ?_
  obtain ⟨v_3, e_4, h⟩ := bind_some h
  obtain ⟨v_5, e_6, h⟩ := bind_some h
  refine st_reg mixed (by kernel_rfl) hS ?_
  refine cg (sp_load ty25 (od rfl)) ?_
  refine mv rfl ?_
  refine cg (sp_call en102 (f102_ok e_4) ⟨od rfl, od rfl, trivial⟩) ?_
  refine cg (sp_call en93 (f93_ok e_6) ⟨od rfl, trivial⟩) ?_
  refine cg (sp_assign (od rfl)) ?_
  refine cg (sp_assign (odi)) ?_
  refine sn fun a w hS => ?_
  refine et ?_
  refine wp_ret ?_
  cases h
  exact st_ret hS (run_results2 Tryz.results37 a w) (⟨_, rfl, hS.get rfl, hS.get rfl, trivial⟩)

theorem f153_ok {p0 : Int} {r : Bool} (h : M.f153 p0 = some r) : CallOK Tryz.prog 153 [isV p0] (isV r) := by
  unfold M.f153 at h
  refine callS_of Tryz.func153 rfl Tryz.ntmps153 rfl fun F0 w0 a hS => ?_
  refine ws ?_
  refine st_reg mixed (by kernel_rfl) hS ?_
  refine cg (sp_assign (odb)) ?_
  refine sn fun a w hS => ?_
  refine et ?_
  refine ws ?_
  obtain ⟨v_1, e_2, h⟩ := bind_some h
  refine st_reg mixed (by kernel_rfl) hS ?_
  refine mv rfl ?_
  refine cg (sp_call en99 (f99_ok e_2) ⟨od rfl, odi, odi, trivial⟩) ?_
  refine cg (sp_not (od rfl)) ?_
  refine cg (sp_assign (od rfl)) ?_
  refine sn fun a w hS => ?_
  refine et ?_
  refine wp_ret ?_
  cases h
  exact st_ret hS (run_results1 Tryz.results153 a w) (hS.get rfl)

theorem f112_ok {p0 : S_api_Roster} {p1 : List Int} {r : Bool} (h : M.f112 p0 p1 = some r) : CallOK Tryz.prog 112 [isV p0, isV p1] (isV r) := by
  unfold M.f112 at h
  refine callS_of Tryz.func112 rfl Tryz.ntmps112 rfl fun F0 w0 a hS => ?_
  refine ws ?_
  refine st_reg mixed (by kernel_rfl) hS ?_
  refine cg (sp_box (od rfl)) ?_
  refine cg (sp_assign (odb)) ?_
  refine sn fun a w hS => ?_
  refine et ?_
  refine ws ?_
  obtain ⟨v_1, e_2, h⟩ := bind_some h
  refine st_reg mixed (by kernel_rfl) hS ?_
  refine mv rfl ?_
  refine cg (sp_len Tryz.underlying26 (od rfl)) ?_
  refine cg (sp_fieldAddr fd25_3 (od rfl)) ?_
  refine cg (sp_load ty22 (od rfl)) ?_
  refine cg (sp_len Tryz.underlying22 (od rfl)) ?_
  refine cg (sp_eql (od rfl) (od rfl)) ?_
  refine mv rfl ?_
  refine sc (sgT rfl fun hG => sp_move (od rfl)) ?_
  refine sc (sgT rfl fun hG => sp_call en42 (f42_ok (guard_some e_2 hG)) ⟨odw rfl hG, of_fn55 (f := (fun x0 => M.f153 x0)) en153 (fun _ _ h => f153_ok h), trivial⟩) ?_
  refine sc (sgT rfl fun hG => sp_not (odw rfl hG)) ?_
  refine cg (sp_pickAnd (od rfl) fun hg => odw rfl hg) ?_
  refine cg (sp_assign (od rfl)) ?_
  refine sn fun a w hS => ?_
  refine et ?_
  refine wp_ret ?_
  cases h
  exact st_ret hS (run_results1 Tryz.results112 a w) (hS.get rfl)

theorem f113_ok {p0 : S_api_Roster} {p1 : List Int} {r : Bool} (h : M.f113 p0 p1 = some r) : CallOK Tryz.prog 113 [isV p0, isV p1] (isV r) := by
  unfold M.f113 at h
  refine callS_of Tryz.func113 rfl Tryz.ntmps113 rfl fun F0 w0 a hS => ?_
  refine ws ?_
  refine st_reg mixed (by kernel_rfl) hS ?_
  refine cg (sp_box (od rfl)) ?_
  refine cg (sp_assign (odb)) ?_
  refine sn fun a w hS => ?_
  refine et ?_
  refine ws ?_
  refine ws ?_
  refine st_reg mixed (by kernel_rfl) hS ?_
  refine cg (sp_fieldAddr fd25_3 (od rfl)) ?_
  refine cg (sp_load ty22 (od rfl)) ?_
  refine cg (sp_len Tryz.underlying22 (od rfl)) ?_
  refine cg (sp_move (odi)) ?_
  refine sn fun a w hS => ?_
  refine et ?_
  refine wp_block ?_
  obtain ⟨o_4, e_5, hr_6⟩ := bind_some h
  refine c_loop (fun K a w => ∃ k i_1 s_3, K = k + 1 ∧ ForI _ _ _ o_4 k i_1 s_3 ∧ St 37 F0 [] [(1, isV (α := List Int) p1), (10, isV (α := List (List Int)) p0.2.2.2.1), (11, isV (α := Int) (p0.2.2.2.1.length : Int)), (12, isV (α := Int) i_1)] w0 a w) ?_ ?_ ⟨_, _, _, rfl, for_init e_5, hS.weak ⟨od rfl, od rfl, od rfl, od rfl, trivial⟩⟩
  · rintro a w ⟨_, _, _, hk, _⟩; cases hk
  rintro K a w ⟨k_4, i_1, s_3, hk, hF_4, hS⟩
  obtain rfl := Nat.succ.inj hk
  refine ws ?_
  refine st_reg mixed (by kernel_rfl) hS ?_
  refine cg (sp_lss (od rfl) (od rfl)) ?_
  refine sn fun a w hS => ?_
  refine et ?_
  refine ws ?_
  refine st_cond hS rfl (fun hb => ?_) (fun hb => ?_)
  · refine wp_skip ?_
    refine et ?_
    obtain ⟨k_4, o, rfl, h, hN_4, hL_4, hw_4⟩ := for_more hF_4 hb
    refine ws ?_
    refine wp_block ?_
    refine ws ?_
    obtain ⟨v_7, e_8, h⟩ := bind_some h
    refine st_reg mixed (by kernel_rfl) hS ?_
    refine mv rfl ?_
    refine cg (sp_indexAddr sl22 (od rfl) (od rfl) e_8) ?_
    refine cg (sp_load ty26 (od rfl)) ?_
    refine cg (sp_assign (od rfl)) ?_
    refine cg (sp_assign (od rfl)) ?_
    refine sn fun a w hS => ?_
    refine et ?_
    refine ws ?_
    refine st_reg mixed (by kernel_rfl) hS ?_
    refine mv rfl ?_
    refine cg (sp_len Tryz.underlying26 (od rfl)) ?_
    refine cg (sp_move (odi)) ?_
    refine sn fun a w hS => ?_
    refine et ?_
    refine wp_block ?_
    obtain ⟨o_12, e_13, hr_14⟩ := bind_some h
    refine c_loop (fun K a w => ∃ k i_9 s_11, K = k + 1 ∧ ForI _ _ _ o_12 k i_9 s_11 ∧ St 37 F0 [] [(1, isV (α := List Int) p1), (5, isV (α := Int) i_1), (10, isV (α := List (List Int)) p0.2.2.2.1), (11, isV (α := Int) (p0.2.2.2.1.length : Int)), (12, isV (α := Int) i_1), (17, isV (α := List Int) v_7), (18, isV (α := Int) (v_7.length : Int)), (19, isV (α := Int) i_9)] w0 a w) ?_ ?_ ⟨_, _, _, rfl, for_init e_13, hS.weak ⟨od rfl, od rfl, od rfl, od rfl, od rfl, od rfl, od rfl, od rfl, trivial⟩⟩
    · rintro a w ⟨_, _, _, hk, _⟩; cases hk
    rintro K a w ⟨k_12, i_9, s_11, hk, hF_12, hS⟩
    obtain rfl := Nat.succ.inj hk
    refine ws ?_
    refine st_reg mixed (by kernel_rfl) hS ?_
    refine cg (sp_lss (od rfl) (od rfl)) ?_
    refine sn fun a w hS => ?_
    refine et ?_
    refine ws ?_
    refine st_cond hS rfl (fun hb => ?_) (fun hb => ?_)
    · refine wp_skip ?_
      refine et ?_
      obtain ⟨k_12, o, rfl, h, hN_12, hL_12, hw_12⟩ := for_more hF_12 hb
      refine ws ?_
      refine wp_block ?_
      refine ws ?_
      obtain ⟨v_15, e_16, h⟩ := bind_some h
      refine st_reg mixed (by kernel_rfl) hS ?_
      refine mv rfl ?_
      refine cg (sp_indexAddr sl26 (od rfl) (od rfl) e_16) ?_
      refine cg (sp_load ty3 (od rfl)) ?_
      refine cg (sp_assign (od rfl)) ?_
      refine cg (sp_assign (od rfl)) ?_
      refine sn fun a w hS => ?_
      refine et ?_
      refine ws ?_
      obtain ⟨v_17, e_18, h⟩ := bind_some h
      obtain ⟨v_19, e_20, h⟩ := bind_some h
      refine st_reg mixed (by kernel_rfl) hS ?_
      refine mv rfl ?_
      refine mv rfl ?_
      refine cg (sp_indexAddr sl26 (od rfl) (od rfl) e_18) ?_
      refine cg (sp_load ty3 (od rfl)) ?_
      refine mv rfl ?_
      refine mv rfl ?_
      refine cg (sp_indexAddr sl26 (od rfl) (od rfl) e_20) ?_
      refine cg (sp_load ty3 (od rfl)) ?_
      refine cg (sp_sub (od rfl) (od rfl)) ?_
      refine mv rfl ?_
      refine cg (sp_gtr (od rfl) (od rfl)) ?_
      refine sn fun a w hS => ?_
      refine et ?_
      refine st_cond hS rfl (fun hb => ?_) (fun hb => ?_)
      · have h := ite_t hb h
        refine ws ?_
        refine st_reg mixed (by kernel_rfl) hS ?_
        refine cg (sp_assign (odb)) ?_
        refine sn fun a w hS => ?_
        refine et ?_
        refine wp_ret ?_
        refine exit_blockR ?_
        refine exit_thenR ?_
        cases h
        obtain rfl := hL_12 _ rfl
        have h := (elim_leave hr_14)
        refine exit_thenR ?_
        refine exit_blockR ?_
        refine exit_blockR ?_
        refine exit_thenR ?_
        cases h
        obtain rfl := hL_4 _ rfl
        have h := (elim_leave hr_6)
        refine exit_thenR ?_
        refine exit_blockR ?_
        refine exit_thenR ?_
        cases h
        exact st_ret hS (run_results1 Tryz.results113 a w) (hS.get rfl)
      have h := ite_f hb h
      refine wp_skip ?_
      refine exit_block ?_
      refine et ?_
      refine st_reg mixed (by kernel_rfl) hS ?_
      refine cg (sp_add (od rfl) (odi)) ?_
      refine mv rfl ?_
      refine sn fun a w hS => ?_
      cases h
      exact ⟨k_12, _, _, rfl, hN_12 _ rfl, hS.weak ⟨od rfl, od rfl, od rfl, od rfl, od rfl, od rfl, od rfl, od (congrArg (fun z => some (isV (α := Int) z)) hw_12), trivial⟩⟩
    refine wp_exit ?_
    obtain rfl := for_done hF_12 hb
    have h := elim_again hr_14
    refine exit_thenE ?_
    refine exit_thenE ?_
    refine exit_here ?_
    refine exit_block ?_
    refine et ?_
    refine st_reg mixed (by kernel_rfl) hS ?_
    refine cg (sp_add (od rfl) (odi)) ?_
    refine mv rfl ?_
    refine sn fun a w hS => ?_
    cases h
    exact ⟨k_4, _, _, rfl, hN_4 _ rfl, hS.weak ⟨od rfl, od rfl, od rfl, od (congrArg (fun z => some (isV (α := Int) z)) hw_4), trivial⟩⟩
  refine wp_exit ?_
  obtain rfl := for_done hF_4 hb
  have h := elim_again hr_6
  refine exit_thenE ?_
  refine exit_thenE ?_
  refine exit_here ?_
  refine et ?_
  refine ws ?_
  refine st_reg mixed (by kernel_rfl) hS ?_
  refine cg (sp_assign (odb)) ?_
  refine sn fun a w hS => ?_
  refine et ?_
  refine wp_ret ?_
  cases h
  exact st_ret hS (run_results1 Tryz.results113 a w) (hS.get rfl)

theorem f115_ok {p0 : S_api_Turn} {p1 : List Int} {r : Bool} (h : M.f115 p0 p1 = some r) : CallOK Tryz.prog 115 [isV p0, isV p1] (isV r) := by
  unfold M.f115 at h
  refine callS_of Tryz.func115 rfl Tryz.ntmps115 rfl fun F0 w0 a hS => ?_
  refine ws ?_
  refine st_reg mixed (by kernel_rfl) hS ?_
  refine cg (sp_box (od rfl)) ?_
  refine cg (sp_assign (odb)) ?_
  refine sn fun a w hS => ?_
  refine et ?_
  refine ws ?_
  obtain ⟨v_1, e_2, h⟩ := bind_some h
  obtain ⟨v_3, e_4, h⟩ := bind_some h
  refine st_reg mixed (by kernel_rfl) hS ?_
  refine mv rfl ?_
  refine cg (sp_fieldAddr fd45_1 (od rfl)) ?_
  refine cg (sp_load ty3 (od rfl)) ?_
  refine cg (sp_indexAddr sl26 (od rfl) (od rfl) e_2) ?_
  refine cg (sp_load ty3 (od rfl)) ?_
  refine cg (sp_fieldAddr fd45_2 (od rfl)) ?_
  refine cg (sp_load ty3 (od rfl)) ?_
  refine cg (sp_geq (od rfl) (od rfl)) ?_
  refine mv rfl ?_
  refine sc (sgT rfl fun hG => sp_move (od rfl)) ?_
  refine sc (sgT rfl fun hG => sp_fieldAddr fd45_3 (od rfl)) ?_
  refine sc (sgT rfl fun hG => sp_load ty3 (odw rfl hG)) ?_
  refine sc (sgT rfl fun hG => sp_indexAddr sl26 (odw rfl hG) (odw rfl hG) (guard_some e_4 hG)) ?_
  refine sc (sgT rfl fun hG => sp_load ty3 (odw rfl hG)) ?_
  refine sc (sgT rfl fun hG => sp_fieldAddr fd45_4 (od rfl)) ?_
  refine sc (sgT rfl fun hG => sp_load ty3 (odw rfl hG)) ?_
  refine sc (sgT rfl fun hG => sp_lss (odw rfl hG) (odw rfl hG)) ?_
  refine cg (sp_pickAnd (od rfl) fun hg => odw rfl hg) ?_
  refine cg (sp_assign (od rfl)) ?_
  refine sn fun a w hS => ?_
  refine et ?_
  refine wp_ret ?_
  cases h
  exact st_ret hS (run_results1 Tryz.results115 a w) (hS.get rfl)

theorem f40_ok {p0 : S_api_Roster} {p1 : List Int} {r : (List Int) × Int} (h : M.f40 p0 p1 = some r) : CallOK Tryz.prog 40 [isV p0, isV p1] (isTup [isV r.1, isV r.2]) := by
  unfold M.f40 at h
  refine callS_of Tryz.func40 rfl Tryz.ntmps40 rfl fun F0 w0 a hS => ?_
  refine ws ?_
  refine st_reg mixed (by kernel_rfl) hS ?_
  refine cg (sp_box (od rfl)) ?_
  refine cg (sp_assign (odnil (α := Int))) ?_
  refine cg (sp_assign (odi)) ?_
  refine sn fun a w hS => ?_
  refine et ?_
  refine ws ?_
  refine ws ?_
  obtain ⟨v_1, e_2, h⟩ := bind_some h
  refine st_reg mixed (by kernel_rfl) hS ?_
  refine cg (sp_load ty25 (od rfl)) ?_
  refine cg (sp_call en47 (f47_ok e_2) ⟨od rfl, trivial⟩) ?_
  refine cg (sp_assign (od rfl)) ?_
  refine sn fun a w hS => ?_
  refine et ?_
  refine ws ?_
  refine st_reg mixed (by kernel_rfl) hS ?_
  refine mv rfl ?_
  refine cg (sp_neq (od rfl) (odi)) ?_
  refine sn fun a w hS => ?_
  refine et ?_
  refine st_cond hS rfl (fun hb => ?_) (fun hb => ?_)
  · have h := ite_t hb h
    refine ws ?_
    refine st_reg mixed (by kernel_rfl) hS ?_
    refine mv rfl ?_
    refine cg (sp_assign (odnil (α := Int))) ?_
    refine cg (sp_assign (od rfl)) ?_
    refine sn fun a w hS => ?_
    refine et ?_
    refine wp_ret ?_
    refine exit_thenR ?_
    cases h
    exact st_ret hS (run_results2 Tryz.results40 a w) (⟨_, rfl, hS.get rfl, hS.get rfl, trivial⟩)
  have h := ite_f hb h
  refine wp_skip ?_
  refine et ?_
  refine ws ?_
  refine ws ?_
  obtain ⟨v_3, e_4, h⟩ := bind_some h
  refine st_reg mixed (by kernel_rfl) hS ?_
  refine cg (sp_load ty25 (od rfl)) ?_
  refine mv rfl ?_
  refine cg (sp_call en112 (f112_ok e_4) ⟨od rfl, od rfl, trivial⟩) ?_
  refine cg (sp_not (od rfl)) ?_
  refine sn fun a w hS => ?_
  refine et ?_
  refine st_cond hS rfl (fun hb => ?_) (fun hb => ?_)
  · have h := ite_t hb h
    refine ws ?_
    refine st_reg mixed (by kernel_rfl) hS ?_
    refine cg (sp_assign (odnil (α := Int))) ?_
    refine cg (sp_assign (odi)) ?_
    refine sn fun a w hS => ?_
    refine et ?_
    refine wp_ret ?_
    refine exit_thenR ?_
    cases h
    exact st_ret hS (run_results2 Tryz.results40 a w) (⟨_, rfl, hS.get rfl, hS.get rfl, trivial⟩)
  have h := ite_f hb h
  refine wp_skip ?_
  refine et ?_
  refine ws ?_
  refine ws ?_
  obtain ⟨v_5, e_6, h⟩ := bind_some h
  refine st_reg mixed (by kernel_rfl) hS ?_
  refine cg (sp_load ty25 (od rfl)) ?_
  refine mv rfl ?_
  refine cg (sp_call en113 (f113_ok e_6) ⟨od rfl, od rfl, trivial⟩) ?_
  refine cg (sp_not (od rfl)) ?_
  refine sn fun a w hS => ?_
  refine et ?_
  refine st_cond hS rfl (fun hb => ?_) (fun hb => ?_)
  · have h := ite_t hb h
    refine ws ?_
    refine st_reg mixed (by kernel_rfl) hS ?_
    refine cg (sp_assign (odnil (α := Int))) ?_
    refine cg (sp_assign (odi)) ?_
    refine sn fun a w hS => ?_
    refine et ?_
    refine wp_ret ?_
    refine exit_thenR ?_
    cases h
    exact st_ret hS (run_results2 Tryz.results40 a w) (⟨_, rfl, hS.get rfl, hS.get rfl, trivial⟩)
  have h := ite_f hb h
  refine wp_skip ?_
  refine et ?_
  refine ws ?_
  refine st_reg mixed (by kernel_rfl) hS ?_
  refine cg (sp_assign (φ := Pr.is (.slice none 0 0)) (odc fun _ => rfl)) ?_
  refine sn fun a w hS => ?_
  have hS := st_nil (α := Int) 3 hS
  have hS : St _ F0 [Item.sl (α := Int) 3 (.slice none 0 0) ([] : List Int)] _ w0 _ _ := hS
  refine et ?_
  refine ws ?_
  refine ws ?_
  refine st_reg mixed (by kernel_rfl) hS ?_
  refine cg (sp_fieldAddr fd25_4 (od rfl)) ?_
  refine cg (sp_load ty23 (od rfl)) ?_
  refine cg (sp_len Tryz.underlying23 (od rfl)) ?_
  refine cg (sp_move (odi)) ?_
  refine sn fun a w hS => ?_
  refine et ?_
  refine wp_block ?_
  obtain ⟨o_10, e_11, hr_12⟩ := bind_some h
  refine c_loop (fun K a w => ∃ k i_7 s_9, ∃ u_13 : Value, K = k + 1 ∧ ForT _ _ _ o_10 k i_7 s_9 ∧ St 40 F0 [Item.sl (α := Int) 3 u_13 s_9] [(1, isV (α := List Int) p1), (7, Pr.is u_13), (24, isV (α := List S_api_Turn) p0.2.2.2.2), (25, isV (α := Int) (p0.2.2.2.2.length : Int)), (26, isV (α := Int) i_7)] w0 a w) ?_ ?_ ⟨_, _, _, (.slice none 0 0), rfl, fors_init e_11, hS.weak ⟨od rfl, od rfl, od rfl, od rfl, od rfl, trivial⟩⟩
  · rintro a w ⟨_, _, _, _, hk, _⟩; cases hk
  rintro K a w ⟨k_10, i_7, s_9, u_13, hk, hF_10, hS⟩
  obtain rfl := Nat.succ.inj hk
  refine ws ?_
  refine st_reg mixed (by kernel_rfl) hS ?_
  refine cg (sp_lss (od rfl) (od rfl)) ?_
  refine sn fun a w hS => ?_
  refine et ?_
  refine ws ?_
  refine st_cond hS rfl (fun hb => ?_) (fun hb => ?_)
  · refine wp_skip ?_
    refine et ?_
    obtain ⟨k_10, s', rfl, h, hF_10, hw_10⟩ := fors_more hF_10 hb
    refine ws ?_
    refine wp_block ?_
    refine ws ?_
    obtain ⟨v_14, e_15, h⟩ := bind_some h
    refine l_start ?_
    refine s_c hS (sg (sp_move (od rfl))) rfl fun a w hS hM => ?_
    refine s_c hS (sg (sp_indexAddr sl23 (od rfl) (od rfl) e_15)) rfl fun a w hS hM => ?_
    refine s_c hS (sg (sp_load ty45 (od rfl))) rfl fun a w hS hM => ?_
    refine s_alloc zi45 hS rfl fun a w b_16 hS hM => ?_
    have hS : St _ F0 [Item.sl (α := Int) 3 u_13 s_9, Item.box (α := S_api_Turn) 45 b_16 ((0, 0, 0, 0, 0, 0) : S_api_Turn)] _ w0 _ _ := hS
    refine s_c hS (sg (sp_assign (od rfl))) rfl fun a w hS hM => ?_
    refine s_storeB (k := 1) (Δ := [(1, isV (α := List Int) p1), (7, Pr.is u_13), (8, isV (α := Int) i_7), (9, Pr.ptr b_16), (24, isV (α := List S_api_Turn) p0.2.2.2.2), (25, isV (α := Int) (p0.2.2.2.2.length : Int)), (26, isV (α := Int) i_7), (30, isV (α := S_api_Turn) v_14)]) ty45 hS rfl ⟨od rfl, od rfl, od rfl, od rfl, od rfl, od rfl, od rfl, od rfl, trivial⟩ ⟨fun _ _ _ _ h => h, fun _ _ _ _ h => h, fun _ _ _ _ h => h, fun _ _ _ _ h => h, fun _ _ _ _ h => h, fun _ _ _ _ h => h, fun _ _ _ _ h => h, fun _ _ _ _ h => h, trivial⟩ rfl (od rfl) fun w hS hM => ?_
    have hS : St _ F0 [Item.sl (α := Int) 3 u_13 s_9, Item.box (α := S_api_Turn) 45 b_16 v_14] _ w0 _ _ := hS
    have hS := st_freezeB 1 9 hS rfl rfl
    refine l_end ?_
    refine et ?_
    refine ws ?_
    obtain ⟨v_17, e_18, h⟩ := bind_some h
    refine st_reg mixed (by kernel_rfl) hS ?_
    refine cg (sp_load ty45 (od rfl)) ?_
    refine mv rfl ?_
    refine cg (sp_call en115 (f115_ok e_18) ⟨od rfl, od rfl, trivial⟩) ?_
    refine sn fun a w hS => ?_
    refine et ?_
    obtain ⟨y_20, hj_19, h⟩ := bind_some h
    refine wp_mono (Q := fun e a w => e = Exit.normal ∧ ∃ u_21 : Value, St 40 F0 [Item.sl (α := Int) 3 u_21 y_20] [(1, isV (α := List Int) p1), (7, Pr.is u_21), (24, isV (α := List S_api_Turn) p0.2.2.2.2), (25, isV (α := Int) (p0.2.2.2.2.length : Int)), (26, isV (α := Int) i_7)] w0 a w) ?_ ?_
    · refine st_cond hS rfl (fun hb => ?_) (fun hb => ?_)
      · have h := ite_t hb hj_19
        obtain ⟨z_22, e_23, h⟩ := bind_some h
        refine l_start ?_
        refine s_c hS (sg (sp_move (od rfl))) rfl fun a w hS hM => ?_
        refine s_c hS (sg (sp_move (od rfl))) rfl fun a w hS hM => ?_
        refine s_c hS (sg (sp_buildSlice [.tmp 35] ([i_7] : List Int) sl26 ze3 rfl rfl rfl rfl ⟨od rfl, trivial⟩)) rfl fun a w hS hM => ?_
        refine s_append (k := 0) (Δ := [(1, isV (α := List Int) p1), (24, isV (α := List S_api_Turn) p0.2.2.2.2), (25, isV (α := Int) (p0.2.2.2.2.length : Int)), (26, isV (α := Int) i_7), (34, Pr.is u_13), (36, isV (α := List Int) ([i_7] : List Int))]) sl26 ze3 hS rfl ⟨od rfl, od rfl, od rfl, od rfl, od rfl, od rfl, trivial⟩ ⟨fun _ _ _ _ h => h, fun _ _ _ _ h => h, fun _ _ _ _ h => h, fun _ _ _ _ h => h, fun _ _ _ _ h => h, fun _ _ _ _ h => h, trivial⟩ (od rfl) (od rfl) e_23 rfl fun a w u_24 hS hM => ?_
        have hS : St _ F0 [Item.sl (α := Int) 3 u_24 z_22] _ w0 _ _ := hS
        refine s_c hS (sg (sp_assign (od rfl))) rfl fun a w hS hM => ?_
        refine l_end ?_
        cases h
        exact ⟨rfl, u_24, hS.weak ⟨od rfl, od rfl, od rfl, od rfl, od rfl, trivial⟩⟩
      have h := ite_f hb hj_19
      refine wp_skip ?_
      cases h
      exact ⟨rfl, u_13, hS.weak ⟨od rfl, od rfl, od rfl, od rfl, od rfl, trivial⟩⟩
    rintro e a w ⟨rfl, u_21, hS⟩
    refine exit_block ?_
    refine et ?_
    refine st_reg mixed (by kernel_rfl) hS ?_
    refine cg (sp_add (od rfl) (odi)) ?_
    refine mv rfl ?_
    refine sn fun a w hS => ?_
    cases h
    exact ⟨k_10, _, _, u_21, rfl, hF_10, hS.weak ⟨od rfl, od rfl, od rfl, od rfl, od (congrArg (fun z => some (isV (α := Int) z)) hw_10), trivial⟩⟩
  refine wp_exit ?_
  obtain rfl := (fors_done hF_10 hb).symm
  have h := hr_12
  refine exit_thenE ?_
  refine exit_thenE ?_
  refine exit_here ?_
  refine et ?_
  refine ws ?_
  refine st_reg mixed (by kernel_rfl) hS ?_
  refine mv rfl ?_
  refine cg (sp_assign (od rfl)) ?_
  refine cg (sp_assign (odi)) ?_
  refine sn fun a w hS => ?_
  refine et ?_
  refine wp_ret ?_
  have hS0 := hS
  have hS := st_freeze 0 4 hS rfl rfl
  have hS := st_also (t := 4) (q := 7) hS0 hS rfl rfl rfl
  have hS := st_also (t := 4) (q := 39) hS0 hS rfl rfl rfl
  cases h
  exact st_ret hS (run_results2 Tryz.results40 a w) (⟨_, rfl, hS.get rfl, hS.get rfl, trivial⟩)

theorem f82_ok {p0 : S_api_Roster} {p1 : List Int} {r : Int} (h : M.f82 p0 p1 = some r) : CallOK Tryz.prog 82 [isV p0, isV p1] (isV r) := by
  unfold M.f82 at h
  refine callS_of Tryz.func82 rfl Tryz.ntmps82 rfl fun F0 w0 a hS => ?_
  refine ws ?_
  refine st_reg mixed (by kernel_rfl) hS ?_
  refine cg (sp_box (od rfl)) ?_
  refine cg (sp_assign (odi)) ?_
  refine sn fun a w hS => ?_
  refine et ?_
  refine ws ?_
  refine st_reg mixed (by kernel_rfl) hS ?_
  refine cg (sp_assign (odi)) ?_
  refine sn fun a w hS => ?_
  refine et ?_
  refine ws ?_
  refine ws ?_
  refine st_reg mixed (by kernel_rfl) hS ?_
  refine mv rfl ?_
  refine cg (sp_len Tryz.underlying26 (od rfl)) ?_
  refine cg (sp_move (odi)) ?_
  refine sn fun a w hS => ?_
  refine et ?_
  refine wp_block ?_
  obtain ⟨o_4, e_5, hr_6⟩ := bind_some h
  refine c_loop (fun K a w => ∃ k i_1 s_3, K = k + 1 ∧ ForT _ _ _ o_4 k i_1 s_3 ∧ St 24 F0 [] [(2, isA (α := S_api_Roster) p0), (5, isV (α := Int) s_3), (8, isV (α := List Int) p1), (9, isV (α := Int) (p1.length : Int)), (10, isV (α := Int) i_1)] w0 a w) ?_ ?_ ⟨_, _, _, rfl, fors_init e_5, hS.weak ⟨od rfl, od rfl, od rfl, od rfl, od rfl, trivial⟩⟩
  · rintro a w ⟨_, _, _, hk, _⟩; cases hk
  rintro K a w ⟨k_4, i_1, s_3, hk, hF_4, hS⟩
  obtain rfl := Nat.succ.inj hk
  refine ws ?_
  refine st_reg mixed (by kernel_rfl) hS ?_
  refine cg (sp_lss (od rfl) (od rfl)) ?_
  refine sn fun a w hS => ?_
  refine et ?_
  refine ws ?_
  refine st_cond hS rfl (fun hb => ?_) (fun hb => ?_)
  · refine wp_skip ?_
    refine et ?_
    obtain ⟨k_4, s', rfl, h, hF_4, hw_4⟩ := fors_more hF_4 hb
    refine ws ?_
    refine wp_block ?_
    refine ws ?_
    obtain ⟨v_7, e_8, h⟩ := bind_some h
    refine st_reg mixed (by kernel_rfl) hS ?_
    refine cg (sp_indexAddr sl26 (od rfl) (od rfl) e_8) ?_
    refine cg (sp_load ty3 (od rfl)) ?_
    refine cg (sp_assign (od rfl)) ?_
    refine sn fun a w hS => ?_
    refine et ?_
    obtain ⟨v_9, e_10, h⟩ := bind_some h
    refine st_reg mixed (by kernel_rfl) hS ?_
    refine mv rfl ?_
    refine cg (sp_fieldAddr fd25_4 (od rfl)) ?_
    refine cg (sp_load ty23 (od rfl)) ?_
    refine mv rfl ?_
    refine cg (sp_indexAddr sl23 (od rfl) (od rfl) e_10) ?_
    refine cg (sp_fieldAddr fd45_5 (od rfl)) ?_
    refine cg (sp_load ty3 (od rfl)) ?_
    refine cg (sp_add (od rfl) (od rfl)) ?_
    refine cg (sp_assign (od rfl)) ?_
    refine sn fun a w hS => ?_
    refine exit_block ?_
    refine et ?_
    refine st_reg mixed (by kernel_rfl) hS ?_
    refine cg (sp_add (od rfl) (odi)) ?_
    refine mv rfl ?_
    refine sn fun a w hS => ?_
    cases h
    exact ⟨k_4, _, _, rfl, hF_4, hS.weak ⟨od rfl, od rfl, od rfl, od rfl, od (congrArg (fun z => some (isV (α := Int) z)) hw_4), trivial⟩⟩
  refine wp_exit ?_
  obtain rfl := (fors_done hF_4 hb).symm
  have h := hr_6
  refine exit_thenE ?_
  refine exit_thenE ?_
  refine exit_here ?_
  refine et ?_
  refine ws ?_
  refine st_reg mixed (by kernel_rfl) hS ?_
  refine mv rfl ?_
  refine cg (sp_assign (od rfl)) ?_
  refine sn fun a w hS => ?_
  refine et ?_
  refine wp_ret ?_
  cases h
  exact st_ret hS (run_results1 Tryz.results82 a w) (hS.get rfl)

theorem f120_ok {p0 : List Int} {p1 : Int} {r : Int} (h : M.f120 p0 p1 = some r) : CallOK Tryz.prog 120 [isV p0, isV p1] (isV r) := by
  unfold M.f120 at h
  refine callS_of Tryz.func120 rfl Tryz.ntmps120 rfl fun F0 w0 a hS => ?_
  refine ws ?_
  refine st_reg mixed (by kernel_rfl) hS ?_
  refine cg (sp_assign (odi)) ?_
  refine sn fun a w hS => ?_
  refine et ?_
  refine ws ?_
  refine ws ?_
  refine st_reg mixed (by kernel_rfl) hS ?_
  refine mv rfl ?_
  refine cg (sp_len Tryz.underlying26 (od rfl)) ?_
  refine cg (sp_move (odi)) ?_
  refine sn fun a w hS => ?_
  refine et ?_
  refine wp_block ?_
  obtain ⟨o_4, e_5, hr_6⟩ := bind_some h
  refine c_loop (fun K a w => ∃ k i_1 s_3, K = k + 1 ∧ ForI _ _ _ o_4 k i_1 s_3 ∧ St 19 F0 [] [(0, isV (α := List Int) p0), (1, isV (α := Int) p1), (7, isV (α := Int) (p0.length : Int)), (8, isV (α := Int) i_1)] w0 a w) ?_ ?_ ⟨_, _, _, rfl, for_init e_5, hS.weak ⟨od rfl, od rfl, od rfl, od rfl, trivial⟩⟩
  · rintro a w ⟨_, _, _, hk, _⟩; cases hk
  rintro K a w ⟨k_4, i_1, s_3, hk, hF_4, hS⟩
  obtain rfl := Nat.succ.inj hk
  refine ws ?_
  refine st_reg mixed (by kernel_rfl) hS ?_
  refine cg (sp_lss (od rfl) (od rfl)) ?_
  refine sn fun a w hS => ?_
  refine et ?_
  refine ws ?_
  refine st_cond hS rfl (fun hb => ?_) (fun hb => ?_)
  · refine wp_skip ?_
    refine et ?_
    obtain ⟨k_4, o, rfl, h, hN_4, hL_4, hw_4⟩ := for_more hF_4 hb
    refine ws ?_
    refine wp_block ?_
    refine ws ?_
    refine st_reg mixed (by kernel_rfl) hS ?_
    refine mv rfl ?_
    refine cg (sp_assign (od rfl)) ?_
    refine sn fun a w hS => ?_
    refine et ?_
    refine ws ?_
    obtain ⟨v_7, e_8, h⟩ := bind_some h
    refine st_reg mixed (by kernel_rfl) hS ?_
    refine mv rfl ?_
    refine mv rfl ?_
    refine mv rfl ?_
    refine cg (sp_indexAddr sl26 (od rfl) (od rfl) e_8) ?_
    refine cg (sp_load ty3 (od rfl)) ?_
    refine cg (sp_eql (od rfl) (od rfl)) ?_
    refine sn fun a w hS => ?_
    refine et ?_
    refine st_cond hS rfl (fun hb => ?_) (fun hb => ?_)
    · have h := ite_t hb h
      refine ws ?_
      refine st_reg mixed (by kernel_rfl) hS ?_
      refine mv rfl ?_
      refine cg (sp_assign (od rfl)) ?_
      refine sn fun a w hS => ?_
      refine et ?_
      refine wp_ret ?_
      refine exit_blockR ?_
      refine exit_thenR ?_
      cases h
      obtain rfl := hL_4 _ rfl
      have h := (elim_leave hr_6)
      refine exit_thenR ?_
      refine exit_blockR ?_
      refine exit_thenR ?_
      cases h
      exact st_ret hS (run_results1 Tryz.results120 a w) (hS.get rfl)
    have h := ite_f hb h
    refine wp_skip ?_
    refine exit_block ?_
    refine et ?_
    refine st_reg mixed (by kernel_rfl) hS ?_
    refine cg (sp_add (od rfl) (odi)) ?_
    refine mv rfl ?_
    refine sn fun a w hS => ?_
    cases h
    exact ⟨k_4, _, _, rfl, hN_4 _ rfl, hS.weak ⟨od rfl, od rfl, od rfl, od (congrArg (fun z => some (isV (α := Int) z)) hw_4), trivial⟩⟩
  refine wp_exit ?_
  obtain rfl := for_done hF_4 hb
  have h := elim_again hr_6
  refine exit_thenE ?_
  refine exit_thenE ?_
  refine exit_here ?_
  refine et ?_
  refine ws ?_
  refine st_reg mixed (by kernel_rfl) hS ?_
  refine cg (sp_assign (odi)) ?_
  refine sn fun a w hS => ?_
  refine et ?_
  refine wp_ret ?_
  cases h
  exact st_ret hS (run_results1 Tryz.results120 a w) (hS.get rfl)

theorem f44_ok {p0 : List Int} {p1 : Int} {r : Bool} (h : M.f44 p0 p1 = some r) : CallOK Tryz.prog 44 [isV p0, isV p1] (isV r) := by
  unfold M.f44 at h
  refine callS_of Tryz.func44 rfl Tryz.ntmps44 rfl fun F0 w0 a hS => ?_
  refine ws ?_
  refine st_reg mixed (by kernel_rfl) hS ?_
  refine cg (sp_assign (odb)) ?_
  refine sn fun a w hS => ?_
  refine et ?_
  refine ws ?_
  obtain ⟨v_1, e_2, h⟩ := bind_some h
  refine st_reg mixed (by kernel_rfl) hS ?_
  refine mv rfl ?_
  refine mv rfl ?_
  refine cg (sp_call en120 (f120_ok e_2) ⟨od rfl, od rfl, trivial⟩) ?_
  refine cg (sp_geq (od rfl) (odi)) ?_
  refine cg (sp_assign (od rfl)) ?_
  refine sn fun a w hS => ?_
  refine et ?_
  refine wp_ret ?_
  cases h
  exact st_ret hS (run_results1 Tryz.results44 a w) (hS.get rfl)

theorem f86_ok {p0 : List Int} {r : Bool} (h : M.f86 p0 = some r) : CallOK Tryz.prog 86 [isV p0] (isV r) := by
  unfold M.f86 at h
  refine callS_of Tryz.func86 rfl Tryz.ntmps86 rfl fun F0 w0 a hS => ?_
  refine ws ?_
  refine st_reg mixed (by kernel_rfl) hS ?_
  refine cg (sp_assign (odb)) ?_
  refine sn fun a w hS => ?_
  refine et ?_
  refine ws ?_
  refine ws ?_
  refine st_reg mixed (by kernel_rfl) hS ?_
  refine mv rfl ?_
  refine cg (sp_len Tryz.underlying26 (od rfl)) ?_
  refine cg (sp_move (odi)) ?_
  refine sn fun a w hS => ?_
  refine et ?_
  refine wp_block ?_
  obtain ⟨o_4, e_5, hr_6⟩ := bind_some h
  refine c_loop (fun K a w => ∃ k i_1 s_3, K = k + 1 ∧ ForI _ _ _ o_4 k i_1 s_3 ∧ St 18 F0 [] [(0, isV (α := List Int) p0), (5, isV (α := List Int) p0), (6, isV (α := Int) (p0.length : Int)), (7, isV (α := Int) i_1)] w0 a w) ?_ ?_ ⟨_, _, _, rfl, for_init e_5, hS.weak ⟨od rfl, od rfl, od rfl, od rfl, trivial⟩⟩
  · rintro a w ⟨_, _, _, hk, _⟩; cases hk
  rintro K a w ⟨k_4, i_1, s_3, hk, hF_4, hS⟩
  obtain rfl := Nat.succ.inj hk
  refine ws ?_
  refine st_reg mixed (by kernel_rfl) hS ?_
  refine cg (sp_lss (od rfl) (od rfl)) ?_
  refine sn fun a w hS => ?_
  refine et ?_
  refine ws ?_
  refine st_cond hS rfl (fun hb => ?_) (fun hb => ?_)
  · refine wp_skip ?_
    refine et ?_
    obtain ⟨k_4, o, rfl, h, hN_4, hL_4, hw_4⟩ := for_more hF_4 hb
    refine ws ?_
    refine wp_block ?_
    refine ws ?_
    obtain ⟨v_7, e_8, h⟩ := bind_some h
    refine st_reg mixed (by kernel_rfl) hS ?_
    refine mv rfl ?_
    refine cg (sp_indexAddr sl26 (od rfl) (od rfl) e_8) ?_
    refine cg (sp_load ty3 (od rfl)) ?_
    refine cg (sp_assign (od rfl)) ?_
    refine cg (sp_assign (od rfl)) ?_
    refine sn fun a w hS => ?_
    refine et ?_
    refine ws ?_
    obtain ⟨z_9, e_10, h⟩ := bind_some h
    obtain ⟨v_11, e_12, h⟩ := bind_some h
    refine st_reg mixed (by kernel_rfl) hS ?_
    refine mv rfl ?_
    refine mv rfl ?_
    refine cg (sp_sliceTo sl26 (od rfl) (od rfl) e_10) ?_
    refine mv rfl ?_
    refine cg (sp_call en44 (f44_ok e_12) ⟨od rfl, od rfl, trivial⟩) ?_
    refine sn fun a w hS => ?_
    refine et ?_
    refine st_cond hS rfl (fun hb => ?_) (fun hb => ?_)
    · have h := ite_t hb h
      refine ws ?_
      refine st_reg mixed (by kernel_rfl) hS ?_
      refine cg (sp_assign (odb)) ?_
      refine sn fun a w hS => ?_
      refine et ?_
      refine wp_ret ?_
      refine exit_blockR ?_
      refine exit_thenR ?_
      cases h
      obtain rfl := hL_4 _ rfl
      have h := (elim_leave hr_6)
      refine exit_thenR ?_
      refine exit_blockR ?_
      refine exit_thenR ?_
      cases h
      exact st_ret hS (run_results1 Tryz.results86 a w) (hS.get rfl)
    have h := ite_f hb h
    refine wp_skip ?_
    refine exit_block ?_
    refine et ?_
    refine st_reg mixed (by kernel_rfl) hS ?_
    refine cg (sp_add (od rfl) (odi)) ?_
    refine mv rfl ?_
    refine sn fun a w hS => ?_
    cases h
    exact ⟨k_4, _, _, rfl, hN_4 _ rfl, hS.weak ⟨od rfl, od rfl, od rfl, od (congrArg (fun z => some (isV (α := Int) z)) hw_4), trivial⟩⟩
  refine wp_exit ?_
  obtain rfl := for_done hF_4 hb
  have h := elim_again hr_6
  refine exit_thenE ?_
  refine exit_thenE ?_
  refine exit_here ?_
  refine et ?_
  refine ws ?_
  refine st_reg mixed (by kernel_rfl) hS ?_
  refine cg (sp_assign (odb)) ?_
  refine sn fun a w hS => ?_
  refine et ?_
  refine wp_ret ?_
  cases h
  exact st_ret hS (run_results1 Tryz.results86 a w) (hS.get rfl)

theorem f53_ok {p0 : S_api_Roster} {p1 : List Int} {r : Int × Int} (h : M.f53 p0 p1 = some r) : CallOK Tryz.prog 53 [isV p0, isV p1] (isTup [isV r.1, isV r.2]) := by
  unfold M.f53 at h
  refine callS_of Tryz.func53 rfl Tryz.ntmps53 rfl fun F0 w0 a hS => ?_
  refine ws ?_
  refine st_reg mixed (by kernel_rfl) hS ?_
  refine cg (sp_box (od rfl)) ?_
  refine cg (sp_assign (odi)) ?_
  refine cg (sp_assign (odi)) ?_
  refine sn fun a w hS => ?_
  refine et ?_
  refine ws ?_
  refine ws ?_
  obtain ⟨v_1, e_2, h⟩ := bind_some h
  refine st_reg mixed (by kernel_rfl) hS ?_
  refine cg (sp_load ty25 (od rfl)) ?_
  refine mv rfl ?_
  refine cg (sp_call en85 (f85_ok e_2) ⟨od rfl, od rfl, trivial⟩) ?_
  refine cg (sp_assign (od rfl)) ?_
  refine sn fun a w hS => ?_
  refine et ?_
  refine ws ?_
  refine st_reg mixed (by kernel_rfl) hS ?_
  refine mv rfl ?_
  refine cg (sp_neq (od rfl) (odi)) ?_
  refine sn fun a w hS => ?_
  refine et ?_
  refine st_cond hS rfl (fun hb => ?_) (fun hb => ?_)
  · have h := ite_t hb h
    refine ws ?_
    refine st_reg mixed (by kernel_rfl) hS ?_
    refine mv rfl ?_
    refine cg (sp_assign (odi)) ?_
    refine cg (sp_assign (od rfl)) ?_
    refine sn fun a w hS => ?_
    refine et ?_
    refine wp_ret ?_
    refine exit_thenR ?_
    cases h
    exact st_ret hS (run_results2 Tryz.results53 a w) (⟨_, rfl, hS.get rfl, hS.get rfl, trivial⟩)
  have h := ite_f hb h
  refine wp_skip ?_
  refine et ?_
  refine ws ?_
  refine ws ?_
  obtain ⟨v_3, e_4, h⟩ := bind_some h
  refine st_reg mixed (by kernel_rfl) hS ?_
  refine mv rfl ?_
  refine cg (sp_call en86 (f86_ok e_4) ⟨od rfl, trivial⟩) ?_
  refine cg (sp_not (od rfl)) ?_
  refine sn fun a w hS => ?_
  refine et ?_
  refine st_cond hS rfl (fun hb => ?_) (fun hb => ?_)
  · have h := ite_t hb h
    refine ws ?_
    refine st_reg mixed (by kernel_rfl) hS ?_
    refine cg (sp_assign (odi)) ?_
    refine cg (sp_assign (odi)) ?_
    refine sn fun a w hS => ?_
    refine et ?_
    refine wp_ret ?_
    refine exit_thenR ?_
    cases h
    exact st_ret hS (run_results2 Tryz.results53 a w) (⟨_, rfl, hS.get rfl, hS.get rfl, trivial⟩)
  have h := ite_f hb h
  refine wp_skip ?_
  refine et ?_
  refine ws ?_
  obtain ⟨v_5, e_6, h⟩ := bind_some h
  refine st_reg mixed (by kernel_rfl) hS ?_
  refine cg (sp_load ty25 (od rfl)) ?_
  refine mv rfl ?_
  refine cg (sp_call en82 (f82_ok e_6) ⟨od rfl, od rfl, trivial⟩) ?_
  refine cg (sp_assign (od rfl)) ?_
  refine cg (sp_assign (odi)) ?_
  refine sn fun a w hS => ?_
  refine et ?_
  refine wp_ret ?_
  cases h
  exact st_ret hS (run_results2 Tryz.results53 a w) (⟨_, rfl, hS.get rfl, hS.get rfl, trivial⟩)

end Go.Proofs.YthogdhepjcomjaaGreatDoor
