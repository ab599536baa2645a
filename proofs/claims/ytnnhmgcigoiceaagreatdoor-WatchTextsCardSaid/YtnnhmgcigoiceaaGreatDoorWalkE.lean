/-
  What is proved: each Go function named here returns what its model tells, and changes nothing that was there; where the model tells something.
-/
import Derived.Test.YtnnhmgcigoiceaaGreatDoorWalkD
import Derived.Test.YtnnhmgcigoiceaaGreatDoorModelE
set_option linter.unusedVariables false
set_option maxRecDepth 100000
namespace Go.Proofs.YtnnhmgcigoiceaaGreatDoor
open Go Go.RowKit Go.Proofs.YtnnhmgcigoiceaaGreatDoor.Wh

theorem f29_ok {p0 : S_api_Turn} {r : Bool} (h : M.f29 p0 = some r) : CallOK Tryz.prog 29 [isV p0] (isV r) := by
  unfold M.f29 at h
  refine callS_of Tryz.func29 rfl Tryz.ntmps29 rfl fun F0 w0 a hS => ?_
  refine ws ?_
  refine st_reg mixed (by kernel_rfl) hS ?_
  refine cg (sp_box (od rfl)) ?_
  refine cg (sp_assign (odb)) ?_
  refine sn fun a w hS => ?_
  refine et ?_
  refine ws ?_
  refine st_reg mixed (by kernel_rfl) hS ?_
  refine cg (sp_fieldAddr fd23_0 (od rfl)) ?_
  refine cg (sp_load ty3 (od rfl)) ?_
  refine cg (sp_geq (od rfl) (odi)) ?_
  refine mv rfl ?_
  refine sc (sgT rfl fun hG => sp_fieldAddr fd23_0 (od rfl)) ?_
  refine sc (sgT rfl fun hG => sp_load ty3 (odw rfl hG)) ?_
  refine sc (sgT rfl fun hG => sp_lss (odw rfl hG) (odi)) ?_
  refine cg (sp_pickAnd (od rfl) fun hg => odw rfl hg) ?_
  refine mv rfl ?_
  refine sc (sgT rfl fun hG => sp_fieldAddr fd23_1 (od rfl)) ?_
  refine sc (sgT rfl fun hG => sp_load ty3 (odw rfl hG)) ?_
  refine sc (sgT rfl fun hG => sp_geq (odw rfl hG) (odi)) ?_
  refine cg (sp_pickAnd (od rfl) fun hg => odw rfl hg) ?_
  refine mv rfl ?_
  refine sc (sgT rfl fun hG => sp_fieldAddr fd23_1 (od rfl)) ?_
  refine sc (sgT rfl fun hG => sp_load ty3 (odw rfl hG)) ?_
  refine sc (sgT rfl fun hG => sp_lss (odw rfl hG) (odi)) ?_
  refine cg (sp_pickAnd (od rfl) fun hg => odw rfl hg) ?_
  refine mv rfl ?_
  refine sc (sgT rfl fun hG => sp_fieldAddr fd23_3 (od rfl)) ?_
  refine sc (sgT rfl fun hG => sp_load ty3 (odw rfl hG)) ?_
  refine sc (sgT rfl fun hG => sp_geq (odw rfl hG) (odi)) ?_
  refine cg (sp_pickAnd (od rfl) fun hg => odw rfl hg) ?_
  refine mv rfl ?_
  refine sc (sgT rfl fun hG => sp_fieldAddr fd23_3 (od rfl)) ?_
  refine sc (sgT rfl fun hG => sp_load ty3 (odw rfl hG)) ?_
  refine sc (sgT rfl fun hG => sp_lss (odw rfl hG) (odi)) ?_
  refine cg (sp_pickAnd (od rfl) fun hg => odw rfl hg) ?_
  refine mv rfl ?_
  refine sc (sgT rfl fun hG => sp_fieldAddr fd23_2 (od rfl)) ?_
  refine sc (sgT rfl fun hG => sp_load ty3 (odw rfl hG)) ?_
  refine sc (sgT rfl fun hG => sp_geq (odw rfl hG) (odi)) ?_
  refine cg (sp_pickAnd (od rfl) fun hg => odw rfl hg) ?_
  refine mv rfl ?_
  refine sc (sgT rfl fun hG => sp_fieldAddr fd23_2 (od rfl)) ?_
  refine sc (sgT rfl fun hG => sp_load ty3 (odw rfl hG)) ?_
  refine sc (sgT rfl fun hG => sp_leq (odw rfl hG) (odi)) ?_
  refine cg (sp_pickAnd (od rfl) fun hg => odw rfl hg) ?_
  refine mv rfl ?_
  refine sc (sgT rfl fun hG => sp_fieldAddr fd23_4 (od rfl)) ?_
  refine sc (sgT rfl fun hG => sp_load ty3 (odw rfl hG)) ?_
  refine sc (sgT rfl fun hG => sp_geq (odw rfl hG) (odi)) ?_
  refine cg (sp_pickAnd (od rfl) fun hg => odw rfl hg) ?_
  refine mv rfl ?_
  refine sc (sgT rfl fun hG => sp_fieldAddr fd23_4 (od rfl)) ?_
  refine sc (sgT rfl fun hG => sp_load ty3 (odw rfl hG)) ?_
  refine sc (sgT rfl fun hG => sp_leq (odw rfl hG) (odi)) ?_
  refine cg (sp_pickAnd (od rfl) fun hg => odw rfl hg) ?_
  refine mv rfl ?_
  refine sc (sgT rfl fun hG => sp_fieldAddr fd23_5 (od rfl)) ?_
  refine sc (sgT rfl fun hG => sp_load ty3 (odw rfl hG)) ?_
  refine sc (sgT rfl fun hG => sp_geq (odw rfl hG) (odi)) ?_
  refine cg (sp_pickAnd (od rfl) fun hg => odw rfl hg) ?_
  refine mv rfl ?_
  refine sc (sgT rfl fun hG => sp_fieldAddr fd23_5 (od rfl)) ?_
  refine sc (sgT rfl fun hG => sp_load ty3 (odw rfl hG)) ?_
  refine sc (sgT rfl fun hG => sp_leq (odw rfl hG) (odi)) ?_
  refine cg (sp_pickAnd (od rfl) fun hg => odw rfl hg) ?_
  refine cg (sp_assign (od rfl)) ?_
  refine sn fun a w hS => ?_
  refine et ?_
  refine wp_ret ?_
  cases h
  exact st_ret hS (run_results1 Tryz.results29 a w) (hS.get rfl)

theorem f9_ok {p0 : Int} {r : S_api_Roster} (h : M.f9 p0 = some r) : CallOK Tryz.prog 9 [isV p0] (isV r) := by
  unfold M.f9 at h
  refine callS_of Tryz.func9 rfl Tryz.ntmps9 rfl fun F0 w0 a hS => ?_
  refine ws ?_
  refine l_start ?_
  refine s_alloc zi34 hS rfl fun a w b_1 hS hM => ?_
  have hS : St _ F0 [Item.box (α := S_api_Roster) 34 b_1 ((0, 0, 0, [], []) : S_api_Roster)] _ w0 _ _ := hS
  refine l_end ?_
  refine et ?_
  refine ws ?_
  refine st_reg mixed (by kernel_rfl) hS ?_
  refine cg (bd23_1245 (odi) (odi) (odi) (odi)) ?_
  refine cg (bd23_2345 (odi) (odi) (odi) (odi)) ?_
  refine cg (bd23_12345 (odi) (odi) (odi) (odi) (odi)) ?_
  refine cg (bd23_245 (odi) (odi) (odi)) ?_
  refine cg (sp_buildSlice [.tmp 4, .tmp 5, .tmp 6, .tmp 7] ([((0, 1, 95, 0, 150, 4) : S_api_Turn), ((0, 0, 145, 1, 170, 3) : S_api_Turn), ((0, 1, 160, 1, 205, 2) : S_api_Turn), ((0, 0, 100, 0, 200, 11) : S_api_Turn)] : List S_api_Turn) sl32 ze23 rfl rfl rfl rfl ⟨od rfl, od rfl, od rfl, od rfl, trivial⟩) ?_
  refine cg (sp_assign (od rfl)) ?_
  refine sn fun a w hS => ?_
  refine et ?_
  refine ws ?_
  obtain ⟨z_2, e_3, h⟩ := bind_some h
  refine l_start ?_
  refine s_c hS (sg (sp_buildSlice [.const (.int .i64 (0)), .const (.int .i64 (5))] ([0, 5] : List Int) sl39 ze3 rfl rfl rfl rfl ⟨odi, odi, trivial⟩)) rfl fun a w hS hM => ?_
  refine s_c hS (sg (sp_buildSlice [.const (.int .i64 (3)), .const (.int .i64 (0))] ([3, 0] : List Int) sl39 ze3 rfl rfl rfl rfl ⟨odi, odi, trivial⟩)) rfl fun a w hS hM => ?_
  refine s_c hS (sg (sp_buildSlice [.tmp 9, .tmp 10] ([([0, 5] : List Int), ([3, 0] : List Int)] : List (List Int)) sl31 ze39 rfl rfl rfl rfl ⟨od rfl, od rfl, trivial⟩)) rfl fun a w hS hM => ?_
  refine s_c hS (sg (sp_move (od rfl))) rfl fun a w hS hM => ?_
  refine s_c hS (sg (sp_move (od rfl))) rfl fun a w hS hM => ?_
  refine s_c hS (sg (sp_sliceTo sl32 (od rfl) (od rfl) e_3)) rfl fun a w hS hM => ?_
  refine s_c hS (sg (bd34_01234 (odi) (odi) (odi) (od rfl) (od rfl))) rfl fun a w hS hM => ?_
  refine s_storeB (k := 0) (Δ := [(2, Pr.ptr b_1), (15, isV (α := S_api_Roster) ((1, 100, 200, ([([0, 5] : List Int), ([3, 0] : List Int)] : List (List Int)), z_2) : S_api_Roster))]) ty34 hS rfl ⟨od rfl, od rfl, trivial⟩ ⟨fun _ _ _ _ h => h, fun _ _ _ _ h => h, trivial⟩ rfl (od rfl) fun w hS hM => ?_
  have hS : St _ F0 [Item.box (α := S_api_Roster) 34 b_1 ((1, 100, 200, ([([0, 5] : List Int), ([3, 0] : List Int)] : List (List Int)), z_2) : S_api_Roster)] _ w0 _ _ := hS
  have hS := st_freezeB 0 2 hS rfl rfl
  refine l_end ?_
  refine et ?_
  refine wp_ret ?_
  cases h
  obtain ⟨v, hr, hv⟩ := run_resC1 Tryz.results9 ty34 (hS.get rfl)
  exact st_ret hS hr hv

theorem f14_ok {fuel : Nat} {p0 : S_api_Roster} {p1 : Int} {r : (List Int) × Bool × Int} (h : M.f14 fuel p0 p1 = some r) : CallOK Tryz.prog 14 [isV p0, isV p1] (isTup [isV r.1, isV r.2.1, isV r.2.2]) := by
  unfold M.f14 at h
  refine callS_of Tryz.func14 rfl Tryz.ntmps14 rfl fun F0 w0 a hS => ?_
  refine ws ?_
  refine st_reg mixed (by kernel_rfl) hS ?_
  refine cg (sp_box (od rfl)) ?_
  refine cg (sp_assign (odnil (α := Int))) ?_
  refine cg (sp_assign (odb)) ?_
  refine cg (sp_assign (odi)) ?_
  refine sn fun a w hS => ?_
  refine et ?_
  refine ws ?_
  refine ws ?_
  obtain ⟨v_1, e_2, h⟩ := bind_some h
  refine st_reg mixed (by kernel_rfl) hS ?_
  refine cg (sp_load ty34 (od rfl)) ?_
  refine mv rfl ?_
  refine cg (sp_call en40 (f40_ok e_2) ⟨od rfl, od rfl, trivial⟩) ?_
  refine cg (sp_assign (od rfl)) ?_
  refine sn fun a w hS => ?_
  refine et ?_
  refine ws ?_
  refine st_reg mixed (by kernel_rfl) hS ?_
  refine mv rfl ?_
  refine cg (sp_neq (od rfl) (odi)) ?_
  refine sn fun a w hS => ?_
  refine et ?_
  refine st_cond hS rfl (fun hb => ?_) (fun hb => ?_)
  · have h := ite_t hb h
    refine ws ?_
    refine st_reg mixed (by kernel_rfl) hS ?_
    refine mv rfl ?_
    refine cg (sp_assign (odnil (α := Int))) ?_
    refine cg (sp_assign (odb)) ?_
    refine cg (sp_assign (od rfl)) ?_
    refine sn fun a w hS => ?_
    refine et ?_
    refine wp_ret ?_
    refine exit_thenR ?_
    cases h
    exact st_ret hS (run_results3 Tryz.results14 a w) (⟨_, rfl, hS.get rfl, hS.get rfl, hS.get rfl, trivial⟩)
  have h := ite_f hb h
  refine wp_skip ?_
  refine et ?_
  refine ws ?_
  obtain ⟨v_3, e_4, h⟩ := bind_some h
  obtain ⟨v_5, e_6, h⟩ := bind_some h
  refine st_reg mixed (by kernel_rfl) hS ?_
  refine cg (sp_load ty34 (od rfl)) ?_
  refine mv rfl ?_
  refine cg (sp_load ty34 (od rfl)) ?_
  refine cg (sp_call en42 (f42_ok e_4) ⟨od rfl, trivial⟩) ?_
  refine cg (sp_call en41 (f41_ok e_6) ⟨od rfl, od rfl, od rfl, trivial⟩) ?_
  refine mv rfl ?_
  refine cg (sp_extract (od rfl) rfl) ?_
  refine cg (sp_extract (od rfl) rfl) ?_
  refine cg (sp_assign (od rfl)) ?_
  refine cg (sp_assign (od rfl)) ?_
  refine sn fun a w hS => ?_
  refine et ?_
  refine ws ?_
  refine st_reg mixed (by kernel_rfl) hS ?_
  refine mv rfl ?_
  refine mv rfl ?_
  refine cg (sp_assign (od rfl)) ?_
  refine cg (sp_assign (od rfl)) ?_
  refine cg (sp_assign (odi)) ?_
  refine sn fun a w hS => ?_
  refine et ?_
  refine wp_ret ?_
  cases h
  exact st_ret hS (run_results3 Tryz.results14 a w) (⟨_, rfl, hS.get rfl, hS.get rfl, hS.get rfl, trivial⟩)

theorem f15_ok {fuel : Nat} {p0 : S_api_Roster} {p1 : Int} {r : (List Int) × Bool × Int} (h : M.f15 fuel p0 p1 = some r) : CallOK Tryz.prog 15 [isV p0, isV p1] (isTup [isV r.1, isV r.2.1, isV r.2.2]) := by
  unfold M.f15 at h
  refine callS_of Tryz.func15 rfl Tryz.ntmps15 rfl fun F0 w0 a hS => ?_
  refine ws ?_
  refine st_reg mixed (by kernel_rfl) hS ?_
  refine cg (sp_box (od rfl)) ?_
  refine cg (sp_assign (odnil (α := Int))) ?_
  refine cg (sp_assign (odb)) ?_
  refine cg (sp_assign (odi)) ?_
  refine sn fun a w hS => ?_
  refine et ?_
  refine ws ?_
  refine ws ?_
  obtain ⟨v_1, e_2, h⟩ := bind_some h
  refine st_reg mixed (by kernel_rfl) hS ?_
  refine cg (sp_load ty34 (od rfl)) ?_
  refine mv rfl ?_
  refine cg (sp_call en40 (f40_ok e_2) ⟨od rfl, od rfl, trivial⟩) ?_
  refine cg (sp_assign (od rfl)) ?_
  refine sn fun a w hS => ?_
  refine et ?_
  refine ws ?_
  refine st_reg mixed (by kernel_rfl) hS ?_
  refine mv rfl ?_
  refine cg (sp_neq (od rfl) (odi)) ?_
  refine sn fun a w hS => ?_
  refine et ?_
  refine st_cond hS rfl (fun hb => ?_) (fun hb => ?_)
  · have h := ite_t hb h
    refine ws ?_
    refine st_reg mixed (by kernel_rfl) hS ?_
    refine mv rfl ?_
    refine cg (sp_assign (odnil (α := Int))) ?_
    refine cg (sp_assign (odb)) ?_
    refine cg (sp_assign (od rfl)) ?_
    refine sn fun a w hS => ?_
    refine et ?_
    refine wp_ret ?_
    refine exit_thenR ?_
    cases h
    exact st_ret hS (run_results3 Tryz.results15 a w) (⟨_, rfl, hS.get rfl, hS.get rfl, hS.get rfl, trivial⟩)
  have h := ite_f hb h
  refine wp_skip ?_
  refine et ?_
  refine ws ?_
  obtain ⟨v_3, e_4, h⟩ := bind_some h
  obtain ⟨v_5, e_6, h⟩ := bind_some h
  refine st_reg mixed (by kernel_rfl) hS ?_
  refine cg (sp_load ty34 (od rfl)) ?_
  refine mv rfl ?_
  refine cg (sp_load ty34 (od rfl)) ?_
  refine cg (sp_call en43 (f43_ok e_4) ⟨od rfl, trivial⟩) ?_
  refine cg (sp_call en41 (f41_ok e_6) ⟨od rfl, od rfl, od rfl, trivial⟩) ?_
  refine mv rfl ?_
  refine cg (sp_extract (od rfl) rfl) ?_
  refine cg (sp_extract (od rfl) rfl) ?_
  refine cg (sp_assign (od rfl)) ?_
  refine cg (sp_assign (od rfl)) ?_
  refine sn fun a w hS => ?_
  refine et ?_
  refine ws ?_
  refine st_reg mixed (by kernel_rfl) hS ?_
  refine mv rfl ?_
  refine mv rfl ?_
  refine cg (sp_assign (od rfl)) ?_
  refine cg (sp_assign (od rfl)) ?_
  refine cg (sp_assign (odi)) ?_
  refine sn fun a w hS => ?_
  refine et ?_
  refine wp_ret ?_
  cases h
  exact st_ret hS (run_results3 Tryz.results15 a w) (⟨_, rfl, hS.get rfl, hS.get rfl, hS.get rfl, trivial⟩)

theorem f46_ok {fuel : Nat} {p0 : S_api_Roster} {p1 : Int} {r : (List Int) × Int} (h : M.f46 fuel p0 p1 = some r) : CallOK Tryz.prog 46 [isV p0, isV p1] (isTup [isV r.1, isV r.2]) := by
  unfold M.f46 at h
  refine callS_of Tryz.func46 rfl Tryz.ntmps46 rfl fun F0 w0 a hS => ?_
  refine ws ?_
  refine st_reg mixed (by kernel_rfl) hS ?_
  refine cg (sp_box (od rfl)) ?_
  refine cg (sp_assign (odnil (α := Int))) ?_
  refine cg (sp_assign (odi)) ?_
  refine sn fun a w hS => ?_
  refine et ?_
  refine ws ?_
  refine ws ?_
  obtain ⟨v_1, e_2, h⟩ := bind_some h
  refine st_reg mixed (by kernel_rfl) hS ?_
  refine cg (sp_load ty34 (od rfl)) ?_
  refine mv rfl ?_
  refine cg (sp_call en40 (f40_ok e_2) ⟨od rfl, od rfl, trivial⟩) ?_
  refine cg (sp_assign (od rfl)) ?_
  refine sn fun a w hS => ?_
  refine et ?_
  refine ws ?_
  refine st_reg mixed (by kernel_rfl) hS ?_
  refine mv rfl ?_
  refine cg (sp_neq (od rfl) (odi)) ?_
  refine sn fun a w hS => ?_
  refine et ?_
  refine st_cond hS rfl (fun hb => ?_) (fun hb => ?_)
  · have h := ite_t hb h
    refine ws ?_
    refine st_reg mixed (by kernel_rfl) hS ?_
    refine mv rfl ?_
    refine cg (sp_assign (odnil (α := Int))) ?_
    refine cg (sp_assign (od rfl)) ?_
    refine sn fun a w hS => ?_
    refine et ?_
    refine wp_ret ?_
    refine exit_thenR ?_
    cases h
    exact st_ret hS (run_results2 Tryz.results46 a w) (⟨_, rfl, hS.get rfl, hS.get rfl, trivial⟩)
  have h := ite_f hb h
  refine wp_skip ?_
  refine et ?_
  refine ws ?_
  obtain ⟨v_3, e_4, h⟩ := bind_some h
  refine st_reg mixed (by kernel_rfl) hS ?_
  refine cg (sp_load ty34 (od rfl)) ?_
  refine mv rfl ?_
  refine cg (sp_call en88 (f88_ok e_4) ⟨od rfl, od rfl, odi, trivial⟩) ?_
  refine cg (sp_assign (od rfl)) ?_
  refine cg (sp_assign (odi)) ?_
  refine sn fun a w hS => ?_
  refine et ?_
  refine wp_ret ?_
  cases h
  exact st_ret hS (run_results2 Tryz.results46 a w) (⟨_, rfl, hS.get rfl, hS.get rfl, trivial⟩)

theorem f17_ok {fuel : Nat} {p0 : S_api_Roster} {p1 : Int} {r : (List Int) × Bool × Int} (h : M.f17 fuel p0 p1 = some r) : CallOK Tryz.prog 17 [isV p0, isV p1] (isTup [isV r.1, isV r.2.1, isV r.2.2]) := by
  unfold M.f17 at h
  refine callS_of Tryz.func17 rfl Tryz.ntmps17 rfl fun F0 w0 a hS => ?_
  refine ws ?_
  refine st_reg mixed (by kernel_rfl) hS ?_
  refine cg (sp_box (od rfl)) ?_
  refine cg (sp_assign (odnil (α := Int))) ?_
  refine cg (sp_assign (odb)) ?_
  refine cg (sp_assign (odi)) ?_
  refine sn fun a w hS => ?_
  refine et ?_
  refine ws ?_
  obtain ⟨v_1, e_2, h⟩ := bind_some h
  refine st_reg mixed (by kernel_rfl) hS ?_
  refine cg (sp_load ty34 (od rfl)) ?_
  refine mv rfl ?_
  refine cg (sp_call en46 (f46_ok e_2) ⟨od rfl, od rfl, trivial⟩) ?_
  refine mv rfl ?_
  refine cg (sp_extract (od rfl) rfl) ?_
  refine cg (sp_extract (od rfl) rfl) ?_
  refine cg (sp_assign (od rfl)) ?_
  refine cg (sp_assign (od rfl)) ?_
  refine sn fun a w hS => ?_
  refine et ?_
  refine ws ?_
  refine ws ?_
  obtain ⟨v_3, e_4, h⟩ := bind_some h
  refine st_reg mixed (by kernel_rfl) hS ?_
  refine mv rfl ?_
  refine cg (sp_neq (od rfl) (odi)) ?_
  refine mv rfl ?_
  refine sc (sgF rfl fun hG => sp_load ty34 (od rfl)) ?_
  refine sc (sgF rfl fun hG => sp_move (od rfl)) ?_
  refine sc (sgF rfl fun hG => sp_call en47 (f47_ok (guard_some e_4 hG)) ⟨odw rfl hG, odw rfl hG, trivial⟩) ?_
  refine cg (sp_pickOr (od rfl) fun hg => odw rfl (not_t hg)) ?_
  refine sn fun a w hS => ?_
  refine et ?_
  refine st_cond hS rfl (fun hb => ?_) (fun hb => ?_)
  · have h := ite_t hb h
    refine ws ?_
    refine st_reg mixed (by kernel_rfl) hS ?_
    refine mv rfl ?_
    refine cg (sp_assign (odnil (α := Int))) ?_
    refine cg (sp_assign (odb)) ?_
    refine cg (sp_assign (od rfl)) ?_
    refine sn fun a w hS => ?_
    refine et ?_
    refine wp_ret ?_
    refine exit_thenR ?_
    cases h
    exact st_ret hS (run_results3 Tryz.results17 a w) (⟨_, rfl, hS.get rfl, hS.get rfl, hS.get rfl, trivial⟩)
  have h := ite_f hb h
  refine wp_skip ?_
  refine et ?_
  refine ws ?_
  refine st_reg mixed (by kernel_rfl) hS ?_
  refine mv rfl ?_
  refine cg (sp_assign (od rfl)) ?_
  refine cg (sp_assign (odb)) ?_
  refine cg (sp_assign (odi)) ?_
  refine sn fun a w hS => ?_
  refine et ?_
  refine wp_ret ?_
  cases h
  exact st_ret hS (run_results3 Tryz.results17 a w) (⟨_, rfl, hS.get rfl, hS.get rfl, hS.get rfl, trivial⟩)

theorem f92_ok {p0 : S_watch_bounds} {p1 : S_api_Roster} {r : (List Int) × Bool} (h : M.f92 p0 p1 = some r) : CallOK Tryz.prog 92 [isV p0, isV p1] (isTup [isV r.1, isV r.2]) := by
  unfold M.f92 at h
  refine callS_of Tryz.func92 rfl Tryz.ntmps92 rfl fun F0 w0 a hS => ?_
  refine ws ?_
  refine st_reg mixed (by kernel_rfl) hS ?_
  refine cg (sp_box (od rfl)) ?_
  refine cg (sp_box (od rfl)) ?_
  refine cg (sp_assign (odnil (α := Int))) ?_
  refine cg (sp_assign (odb)) ?_
  refine sn fun a w hS => ?_
  refine et ?_
  refine ws ?_
  refine st_reg mixed (by kernel_rfl) hS ?_
  refine cg (sp_assign (φ := Pr.is (.slice none 0 0)) (odc fun _ => rfl)) ?_
  refine sn fun a w hS => ?_
  have hS := st_nil (α := Int) 3 hS
  have hS : St _ F0 [Item.sl (α := Int) 3 (.slice none 0 0) ([] : List Int)] _ w0 _ _ := hS
  refine et ?_
  refine ws ?_
  refine ws ?_
  refine st_reg mixed (by kernel_rfl) hS ?_
  refine cg (sp_fieldAddr fd34_3 (od rfl)) ?_
  refine cg (sp_load ty31 (od rfl)) ?_
  refine cg (sp_len Tryz.underlying31 (od rfl)) ?_
  refine cg (sp_move (odi)) ?_
  refine sn fun a w hS => ?_
  refine et ?_
  refine wp_block ?_
  obtain ⟨o_4, e_5, hr_6⟩ := bind_some h
  refine c_loop (fun K a w => ∃ k i_1 s_3, ∃ u_7 : Value, K = k + 1 ∧ ForI _ _ _ o_4 k i_1 s_3 ∧ St 51 F0 [Item.sl (α := Int) 3 u_7 s_3] [(2, isA (α := S_watch_bounds) p0), (3, isA (α := S_api_Roster) p1), (6, Pr.is u_7), (13, isV (α := Int) (p1.2.2.2.1.length : Int)), (14, isV (α := Int) i_1)] w0 a w) ?_ ?_ ⟨_, _, _, (.slice none 0 0), rfl, for_init e_5, hS.weak ⟨od rfl, od rfl, od rfl, od rfl, od rfl, trivial⟩⟩
  · rintro a w ⟨_, _, _, _, hk, _⟩; cases hk
  rintro K a w ⟨k_4, i_1, s_3, u_7, hk, hF_4, hS⟩
  obtain rfl := Nat.succ.inj hk
  refine ws ?_
  refine st_reg mixed (by kernel_rfl) hS ?_
  refine cg (sp_lss (od rfl) (od rfl)) ?_
  refine sn fun a w hS => ?_
  refine et ?_
  refine ws ?_
  refine st_cond hS rfl (fun hb => ?_) (fun hb => ?_)
  · refine wp_skip ?_
    refine et ?_
    obtain ⟨k_4, o, rfl, h, hN_4, hL_4, hw_4⟩ := for_more hF_4 hb
    refine ws ?_
    refine wp_block ?_
    refine ws ?_
    refine st_reg mixed (by kernel_rfl) hS ?_
    refine mv rfl ?_
    refine cg (sp_assign (od rfl)) ?_
    refine sn fun a w hS => ?_
    refine et ?_
    refine ws ?_
    refine st_reg mixed (by kernel_rfl) hS ?_
    refine cg (sp_assign (odi)) ?_
    refine sn fun a w hS => ?_
    refine et ?_
    refine ws ?_
    refine ws ?_
    refine st_reg mixed (by kernel_rfl) hS ?_
    refine cg (sp_fieldAddr fd34_3 (od rfl)) ?_
    refine cg (sp_load ty31 (od rfl)) ?_
    refine cg (sp_len Tryz.underlying31 (od rfl)) ?_
    refine cg (sp_move (odi)) ?_
    refine sn fun a w hS => ?_
    refine et ?_
    refine wp_block ?_
    obtain ⟨o_11, e_12, hr_13⟩ := bind_some h
    refine c_loop (fun K a w => ∃ k i_8 s_10, K = k + 1 ∧ ForT _ _ _ o_11 k i_8 s_10 ∧ St 51 F0 [Item.sl (α := Int) 3 u_7 s_3] [(2, isA (α := S_watch_bounds) p0), (3, isA (α := S_api_Roster) p1), (6, Pr.is u_7), (7, isV (α := Int) i_1), (8, isV (α := Int) s_10), (13, isV (α := Int) (p1.2.2.2.1.length : Int)), (14, isV (α := Int) i_1), (18, isV (α := List (List Int)) p1.2.2.2.1), (19, isV (α := Int) (p1.2.2.2.1.length : Int)), (20, isV (α := Int) i_8)] w0 a w) ?_ ?_ ⟨_, _, _, rfl, fors_init e_12, hS.weak ⟨od rfl, od rfl, od rfl, od rfl, od rfl, od rfl, od rfl, od rfl, od rfl, od rfl, trivial⟩⟩
    · rintro a w ⟨_, _, _, hk, _⟩; cases hk
    rintro K a w ⟨k_11, i_8, s_10, hk, hF_11, hS⟩
    obtain rfl := Nat.succ.inj hk
    refine ws ?_
    refine st_reg mixed (by kernel_rfl) hS ?_
    refine cg (sp_lss (od rfl) (od rfl)) ?_
    refine sn fun a w hS => ?_
    refine et ?_
    refine ws ?_
    refine st_cond hS rfl (fun hb => ?_) (fun hb => ?_)
    · refine wp_skip ?_
      refine et ?_
      obtain ⟨k_11, s', rfl, h, hF_11, hw_11⟩ := fors_more hF_11 hb
      refine ws ?_
      refine wp_block ?_
      refine ws ?_
      obtain ⟨v_14, e_15, h⟩ := bind_some h
      refine st_reg mixed (by kernel_rfl) hS ?_
      refine mv rfl ?_
      refine cg (sp_indexAddr sl31 (od rfl) (od rfl) e_15) ?_
      refine cg (sp_load ty39 (od rfl)) ?_
      refine cg (sp_assign (od rfl)) ?_
      refine cg (sp_assign (od rfl)) ?_
      refine sn fun a w hS => ?_
      refine et ?_
      obtain ⟨v_16, e_17, h⟩ := bind_some h
      obtain ⟨v_18, e_19, h⟩ := bind_some h
      refine st_reg mixed (by kernel_rfl) hS ?_
      refine mv rfl ?_
      refine cg (sp_fieldAddr fd80_0 (od rfl)) ?_
      refine cg (sp_load ty39 (od rfl)) ?_
      refine mv rfl ?_
      refine cg (sp_indexAddr sl39 (od rfl) (od rfl) e_17) ?_
      refine cg (sp_load ty3 (od rfl)) ?_
      refine mv rfl ?_
      refine mv rfl ?_
      refine cg (sp_indexAddr sl39 (od rfl) (od rfl) e_19) ?_
      refine cg (sp_load ty3 (od rfl)) ?_
      refine cg (sp_sub (od rfl) (od rfl)) ?_
      refine cg (sp_max (od rfl) (od rfl)) ?_
      refine cg (sp_assign (od rfl)) ?_
      refine sn fun a w hS => ?_
      refine exit_block ?_
      refine et ?_
      refine st_reg mixed (by kernel_rfl) hS ?_
      refine cg (sp_add (od rfl) (odi)) ?_
      refine mv rfl ?_
      refine sn fun a w hS => ?_
      cases h
      exact ⟨k_11, _, _, rfl, hF_11, hS.weak ⟨od rfl, od rfl, od rfl, od rfl, od rfl, od rfl, od rfl, od rfl, od rfl, od (congrArg (fun z => some (isV (α := Int) z)) hw_11), trivial⟩⟩
    refine wp_exit ?_
    obtain rfl := (fors_done hF_11 hb).symm
    have h := hr_13
    refine exit_thenE ?_
    refine exit_thenE ?_
    refine exit_here ?_
    refine et ?_
    refine ws ?_
    refine ws ?_
    obtain ⟨v_20, e_21, h⟩ := bind_some h
    refine st_reg mixed (by kernel_rfl) hS ?_
    refine mv rfl ?_
    refine cg (sp_fieldAddr fd80_1 (od rfl)) ?_
    refine cg (sp_load ty39 (od rfl)) ?_
    refine mv rfl ?_
    refine cg (sp_indexAddr sl39 (od rfl) (od rfl) e_21) ?_
    refine cg (sp_load ty3 (od rfl)) ?_
    refine cg (sp_gtr (od rfl) (od rfl)) ?_
    refine sn fun a w hS => ?_
    refine et ?_
    refine st_cond hS rfl (fun hb => ?_) (fun hb => ?_)
    · have h := ite_t hb h
      refine ws ?_
      have hS := st_drop 0 hS
      refine st_reg mixed (by kernel_rfl) hS ?_
      refine cg (sp_assign (odnil (α := Int))) ?_
      refine cg (sp_assign (odb)) ?_
      refine sn fun a w hS => ?_
      refine et ?_
      refine wp_ret ?_
      refine exit_thenR ?_
      refine exit_blockR ?_
      refine exit_thenR ?_
      cases h
      obtain rfl := hL_4 _ rfl
      have h := (elim_leave hr_6)
      refine exit_thenR ?_
      refine exit_blockR ?_
      refine exit_thenR ?_
      cases h
      exact st_ret hS (run_results2 Tryz.results92 a w) (⟨_, rfl, hS.get rfl, hS.get rfl, trivial⟩)
    have h := ite_f hb h
    refine wp_skip ?_
    refine et ?_
    obtain ⟨z_22, e_23, h⟩ := bind_some h
    refine l_start ?_
    refine s_c hS (sg (sp_move (od rfl))) rfl fun a w hS hM => ?_
    refine s_c hS (sg (sp_move (od rfl))) rfl fun a w hS hM => ?_
    refine s_c hS (sg (sp_buildSlice [.tmp 46] ([s_10] : List Int) sl39 ze3 rfl rfl rfl rfl ⟨od rfl, trivial⟩)) rfl fun a w hS hM => ?_
    refine s_append (k := 0) (Δ := [(2, isA (α := S_watch_bounds) p0), (3, isA (α := S_api_Roster) p1), (13, isV (α := Int) (p1.2.2.2.1.length : Int)), (14, isV (α := Int) i_1), (45, Pr.is u_7), (47, isV (α := List Int) ([s_10] : List Int))]) sl39 ze3 hS rfl ⟨od rfl, od rfl, od rfl, od rfl, od rfl, od rfl, trivial⟩ ⟨fun _ _ _ _ h => h, fun _ _ _ _ h => h, fun _ _ _ _ h => h, fun _ _ _ _ h => h, fun _ _ _ _ h => h, fun _ _ _ _ h => h, trivial⟩ (od rfl) (od rfl) e_23 rfl fun a w u_24 hS hM => ?_
    have hS : St _ F0 [Item.sl (α := Int) 3 u_24 z_22] _ w0 _ _ := hS
    refine s_c hS (sg (sp_assign (od rfl))) rfl fun a w hS hM => ?_
    refine l_end ?_
    refine exit_block ?_
    refine et ?_
    refine st_reg mixed (by kernel_rfl) hS ?_
    refine cg (sp_add (od rfl) (odi)) ?_
    refine mv rfl ?_
    refine sn fun a w hS => ?_
    cases h
    exact ⟨k_4, _, _, u_24, rfl, hN_4 _ rfl, hS.weak ⟨od rfl, od rfl, od rfl, od rfl, od (congrArg (fun z => some (isV (α := Int) z)) hw_4), trivial⟩⟩
  refine wp_exit ?_
  obtain rfl := for_done hF_4 hb
  have h := elim_again hr_6
  refine exit_thenE ?_
  refine exit_thenE ?_
  refine exit_here ?_
  refine et ?_
  refine ws ?_
  refine st_reg mixed (by kernel_rfl) hS ?_
  refine mv rfl ?_
  refine cg (sp_assign (od rfl)) ?_
  refine cg (sp_assign (odb)) ?_
  refine sn fun a w hS => ?_
  refine et ?_
  refine wp_ret ?_
  have hS0 := hS
  have hS := st_freeze 0 4 hS rfl rfl
  have hS := st_also (t := 4) (q := 6) hS0 hS rfl rfl rfl
  have hS := st_also (t := 4) (q := 50) hS0 hS rfl rfl rfl
  cases h
  exact st_ret hS (run_results2 Tryz.results92 a w) (⟨_, rfl, hS.get rfl, hS.get rfl, trivial⟩)

theorem f50_ok {fuel : Nat} : ∀ {p0 : S_api_Roster} {p1 : List Int} {p2 : S_watch_bounds} {r : (List Int) × Bool}, M.f50 fuel p0 p1 p2 = some r → CallOK Tryz.prog 50 [isV p0, isV p1, isV p2] (isTup [isV r.1, isV r.2]) := by
  induction fuel with
  | zero => intro _ _ _ r h; cases h
  | succ fuel ih =>
    intro p0 p1 p2 r h
    unfold M.f50 at h
    refine callS_of Tryz.func50 rfl Tryz.ntmps50 rfl fun F0 w0 a hS => ?_
    refine ws ?_
    refine st_reg mixed (by kernel_rfl) hS ?_
    refine cg (sp_box (od rfl)) ?_
    refine cg (sp_box (od rfl)) ?_
    refine cg (sp_assign (odnil (α := Int))) ?_
    refine cg (sp_assign (odb)) ?_
    refine sn fun a w hS => ?_
    refine et ?_
    refine ws ?_
    refine ws ?_
    refine st_reg mixed (by kernel_rfl) hS ?_
    refine mv rfl ?_
    refine cg (sp_len Tryz.underlying39 (od rfl)) ?_
    refine cg (sp_eql (od rfl) (odi)) ?_
    refine sn fun a w hS => ?_
    refine et ?_
    refine st_cond hS rfl (fun hb => ?_) (fun hb => ?_)
    · have h := ite_t hb h
      refine ws ?_
      obtain ⟨v_1, e_2, h⟩ := bind_some h
      refine st_reg mixed (by kernel_rfl) hS ?_
      refine cg (sp_load ty80 (od rfl)) ?_
      refine cg (sp_load ty34 (od rfl)) ?_
      refine cg (sp_call en92 (f92_ok e_2) ⟨od rfl, od rfl, trivial⟩) ?_
      refine cg (sp_extract (od rfl) rfl) ?_
      refine cg (sp_extract (od rfl) rfl) ?_
      refine cg (sp_assign (od rfl)) ?_
      refine cg (sp_assign (od rfl)) ?_
      refine sn fun a w hS => ?_
      refine et ?_
      refine wp_ret ?_
      refine exit_thenR ?_
      cases h
      exact st_ret hS (run_results2 Tryz.results50 a w) (⟨_, rfl, hS.get rfl, hS.get rfl, trivial⟩)
    have h := ite_f hb h
    refine wp_skip ?_
    refine et ?_
    refine ws ?_
    obtain ⟨v_3, e_4, h⟩ := bind_some h
    obtain ⟨v_5, e_6, h⟩ := bind_some h
    have hS := hS.weak (Δ := [(0, isV (α := S_api_Roster) p0), (1, isV (α := List Int) p1), (2, isV (α := S_watch_bounds) p2), (3, isA (α := S_api_Roster) p0), (5, isA (α := S_watch_bounds) p2), (6, isV (α := List Int) ([] : List Int)), (7, isV (α := Bool) false), (12, isV (α := List Int) p1), (13, isV (α := Int) (p1.length : Int)), (14, isV (α := Bool) ((p1.length : Int) == 0))]) ⟨od rfl, od rfl, od rfl, od rfl, od rfl, od rfl, od rfl, od rfl, od rfl, od rfl, trivial⟩
    refine st_pairs mixed [0, 0, 0, 0, 0, 0, 0, 3, 4] [⟨7, 8, 8, 23, S_api_Turn, inferInstance, ((0, 0, 0, 0, 0, 0) : S_api_Turn), v_5⟩] (by kernel_rfl) (by kernel_rfl) hS ⟨fun _ _ _ _ h => h, fun _ _ _ _ h => h, fun _ _ _ _ h => h, fun _ _ _ _ h => h, fun _ _ _ _ h => h, fun _ _ _ _ h => h, fun _ _ _ _ h => h, fun _ _ _ _ h => h, fun _ _ _ _ h => h, fun _ _ _ _ h => h, trivial⟩ ?_
    refine sq0 (fun _ _ _ _ h => h) (sg (sp_fieldAddr fd34_4 (od rfl))) ?_
    refine sq0 (fun _ _ _ _ h => h) (sg (sp_load ty32 (od rfl))) ?_
    refine sq0 (fun _ _ _ _ h => h) (sg (sp_move (od rfl))) ?_
    refine sq0 (fun _ _ _ _ h => h) (sg (sp_indexAddr sl39 (od rfl) (odi) e_4)) ?_
    refine sq0 (fun _ _ _ _ h => h) (sg (sp_load ty3 (od rfl))) ?_
    refine sq0 (fun _ _ _ _ h => h) (sg (sp_indexAddr sl32 (od rfl) (od rfl) e_6)) ?_
    refine sq0 (fun _ _ _ _ h => h) (sg (sp_load ty23 (od rfl))) ?_
    refine sqA 0 rfl zi23 ?_
    refine sqS 0 rfl ty23 (od rfl) ?_
    refine sqN fun a w bs hl hS => ?_
    obtain ⟨b_7, rfl⟩ := len1 hl
    have hS : St _ F0 [Item.box (α := S_api_Turn) 23 b_7 (v_5 : S_api_Turn)] ((8, Pr.ptr b_7) :: _) w0 _ _ := hS
    have hS := st_freezeB 0 8 hS rfl rfl
    refine et ?_
    refine ws ?_
    obtain ⟨m_8, e_9, h⟩ := bind_some h
    refine wp_mono (Q := fun e a w => e = Exit.normal ∧ ∃ u_10 : Value, ∃ b_12 : Nat, St 85 F0 [Item.sl (α := Int) 3 u_10 m_8, Item.box (α := (List Int) × Raw) 80 b_12 (p2.1, (Raw.mk u_10))] [(1, isV (α := List Int) p1), (3, isA (α := S_api_Roster) p0), (5, isA (α := S_watch_bounds) p2), (8, isA (α := S_api_Turn) (v_5 : S_api_Turn)), (9, Pr.ptr b_12)] w0 a w) ?_ ?_
    · refine st_floatA mixed [1, 1, 1, 1, 2, 2, 2, 2] [4, 5, 6, 7] 4 (by kernel_rfl) (by kernel_rfl) (by kernel_rfl) rfl hS ?_
      refine sfF (sy (sy_fieldAddr fd80_0 (od rfl))) ?_
      refine sfF (sy (sy_load ty39 (od rfl))) ?_
      refine sfF (sy (sy_fieldAddr fd80_1 (od rfl))) ?_
      refine sfF (sy (sy_load ty39 (od rfl))) ?_
      refine sfT ?_
      refine sfT ?_
      refine sfT ?_
      refine sfT ?_
      refine sfN fun c a w hS hC => ?_
      refine anyT_of [4, 6] (by kernel_rfl) ?_
      refine allR_cons rfl ?_ ?_
      · skip
        refine s_callI en93 (f93_ok e_9) hS ⟨od rfl, trivial⟩ rfl fun a w u_10 x_11 hS hM => ?_
        have hS : St _ F0 [Item.sl (α := Int) 3 u_10 m_8] _ w0 _ _ := hS
        have hC := Mem.le_trans hC hM
        refine s_nextA hC ?_
        refine anyT_of [5, 6] (by kernel_rfl) ?_
        refine allR_cons rfl ?_ ?_
        · skip
          refine s_c hS (sg (bdR80_01_1 (od rfl) (odRaw (od rfl) (hS.one (k := 0) rfl)))) rfl fun a w hS hM => ?_
          have hC := Mem.le_trans hC hM
          refine s_nextA hC ?_
          refine anyT_of [6] (by kernel_rfl) ?_
          refine allR_cons rfl ?_ ?_
          · skip
            refine s_alloc zi80 hS rfl fun a w b_12 hS hM => ?_
            have hS : St _ F0 [Item.sl (α := Int) 3 u_10 m_8, Item.box (α := S_watch_bounds) 80 b_12 (([], []) : S_watch_bounds)] _ w0 _ _ := hS
            have hC := Mem.le_trans hC hM
            refine s_nextA hC ?_
            refine anyT_of [7] (by kernel_rfl) ?_
            refine allR_cons rfl ?_ ?_
            · skip
              refine s_storeB2 (α := S_watch_bounds) (k := 1) (Δ := [(1, isV (α := List Int) p1), (3, isA (α := S_api_Roster) p0), (5, isA (α := S_watch_bounds) p2), (8, isA (α := S_api_Turn) (v_5 : S_api_Turn)), (9, Pr.ptr b_12), (32, isV (α := (List Int) × Raw) (p2.1, (Raw.mk u_10)))]) tyR80_1 rfl hS rfl ⟨od rfl, od rfl, od rfl, od rfl, od rfl, od rfl, trivial⟩ ⟨fun _ _ _ _ h => h, fun _ _ _ _ h => h, fun _ _ _ _ h => h, fun _ _ _ _ h => h, fun _ _ _ _ h => h, fun _ _ _ _ h => h, trivial⟩ rfl (od rfl) fun w hS hM => ?_
              have hS : St _ F0 [Item.sl (α := Int) 3 u_10 m_8, Item.box (α := (List Int) × Raw) 80 b_12 (p2.1, (Raw.mk u_10))] _ w0 _ _ := hS
              have hC := Mem.le_trans hC hM
              refine s_nextA hC ?_
              refine anyT_done ?_
              exact ⟨rfl, u_10, b_12, hS.weak ⟨od rfl, od rfl, od rfl, od rfl, od rfl, trivial⟩⟩
            exact allR_nil
          exact allR_nil
        refine allR_cons rfl ?_ ?_
        · skip
          refine s_alloc zi80 hS rfl fun a w b_12 hS hM => ?_
          have hS : St _ F0 [Item.sl (α := Int) 3 u_10 m_8, Item.box (α := S_watch_bounds) 80 b_12 (([], []) : S_watch_bounds)] _ w0 _ _ := hS
          have hC := Mem.le_trans hC hM
          refine s_nextA hC ?_
          refine anyT_of [5] (by kernel_rfl) ?_
          refine allR_cons rfl ?_ ?_
          · skip
            refine s_c hS (sg (bdR80_01_1 (od rfl) (odRaw (od rfl) (hS.one (k := 0) rfl)))) rfl fun a w hS hM => ?_
            have hC := Mem.le_trans hC hM
            refine s_nextA hC ?_
            refine anyT_of [7] (by kernel_rfl) ?_
            refine allR_cons rfl ?_ ?_
            · skip
              refine s_storeB2 (α := S_watch_bounds) (k := 1) (Δ := [(1, isV (α := List Int) p1), (3, isA (α := S_api_Roster) p0), (5, isA (α := S_watch_bounds) p2), (8, isA (α := S_api_Turn) (v_5 : S_api_Turn)), (9, Pr.ptr b_12), (32, isV (α := (List Int) × Raw) (p2.1, (Raw.mk u_10)))]) tyR80_1 rfl hS rfl ⟨od rfl, od rfl, od rfl, od rfl, od rfl, od rfl, trivial⟩ ⟨fun _ _ _ _ h => h, fun _ _ _ _ h => h, fun _ _ _ _ h => h, fun _ _ _ _ h => h, fun _ _ _ _ h => h, fun _ _ _ _ h => h, trivial⟩ rfl (od rfl) fun w hS hM => ?_
              have hS : St _ F0 [Item.sl (α := Int) 3 u_10 m_8, Item.box (α := (List Int) × Raw) 80 b_12 (p2.1, (Raw.mk u_10))] _ w0 _ _ := hS
              have hC := Mem.le_trans hC hM
              refine s_nextA hC ?_
              refine anyT_done ?_
              exact ⟨rfl, u_10, b_12, hS.weak ⟨od rfl, od rfl, od rfl, od rfl, od rfl, trivial⟩⟩
            exact allR_nil
          exact allR_nil
        exact allR_nil
      refine allR_cons rfl ?_ ?_
      · skip
        refine s_alloc zi80 hS rfl fun a w b_12 hS hM => ?_
        have hS : St _ F0 [Item.box (α := S_watch_bounds) 80 b_12 (([], []) : S_watch_bounds)] _ w0 _ _ := hS
        have hC := Mem.le_trans hC hM
        refine s_nextA hC ?_
        refine anyT_of [4] (by kernel_rfl) ?_
        refine allR_cons rfl ?_ ?_
        · skip
          refine s_callI en93 (f93_ok e_9) hS ⟨od rfl, trivial⟩ rfl fun a w u_10 x_11 hS hM => ?_
          have hS : St _ F0 [Item.box (α := S_watch_bounds) 80 b_12 (([], []) : S_watch_bounds), Item.sl (α := Int) 3 u_10 m_8] _ w0 _ _ := hS
          have hC := Mem.le_trans hC hM
          refine s_nextA hC ?_
          refine anyT_of [5] (by kernel_rfl) ?_
          refine allR_cons rfl ?_ ?_
          · skip
            refine s_c hS (sg (bdR80_01_1 (od rfl) (odRaw (od rfl) (hS.one (k := 1) rfl)))) rfl fun a w hS hM => ?_
            have hC := Mem.le_trans hC hM
            refine s_nextA hC ?_
            refine anyT_of [7] (by kernel_rfl) ?_
            refine allR_cons rfl ?_ ?_
            · skip
              refine s_storeB2 (α := S_watch_bounds) (k := 0) (Δ := [(1, isV (α := List Int) p1), (3, isA (α := S_api_Roster) p0), (5, isA (α := S_watch_bounds) p2), (8, isA (α := S_api_Turn) (v_5 : S_api_Turn)), (9, Pr.ptr b_12), (32, isV (α := (List Int) × Raw) (p2.1, (Raw.mk u_10)))]) tyR80_1 rfl hS rfl ⟨od rfl, od rfl, od rfl, od rfl, od rfl, od rfl, trivial⟩ ⟨fun _ _ _ _ h => h, fun _ _ _ _ h => h, fun _ _ _ _ h => h, fun _ _ _ _ h => h, fun _ _ _ _ h => h, fun _ _ _ _ h => h, trivial⟩ rfl (od rfl) fun w hS hM => ?_
              have hS : St _ F0 [Item.box (α := (List Int) × Raw) 80 b_12 (p2.1, (Raw.mk u_10)), Item.sl (α := Int) 3 u_10 m_8] _ w0 _ _ := hS
              have hC := Mem.le_trans hC hM
              refine s_nextA hC ?_
              refine anyT_done ?_
              have hS := st_front 1 hS rfl
              have hS : St _ F0 [Item.sl (α := Int) 3 u_10 m_8, Item.box (α := (List Int) × Raw) 80 b_12 (p2.1, (Raw.mk u_10))] _ w0 _ _ := hS
              exact ⟨rfl, u_10, b_12, hS.weak ⟨od rfl, od rfl, od rfl, od rfl, od rfl, trivial⟩⟩
            exact allR_nil
          exact allR_nil
        exact allR_nil
      exact allR_nil
    rintro e a w ⟨rfl, u_10, b_12, hS⟩
    refine et ?_
    refine ws ?_
    have hS := st_box 1 9 hS rfl rfl
    have hS := st_row 0 9 hS rfl rfl
    obtain ⟨v_13, e_14, h⟩ := bind_some h
    obtain ⟨v_15, e_16, h⟩ := bind_some h
    obtain ⟨z_17, e_18, h⟩ := bind_some h
    refine st_float mixed [0, 0, 0, 0, 0, 0, 0, 0, 0, 0, 0, 0, 0, 0, 0, 2] (by kernel_rfl) (by kernel_rfl) hS ?_
    refine sfA (sg (sp_fieldAddrRow fdR80_1_1 (od_mono (od rfl) fun _ _ k => ⟨k.1.2, k.2⟩))) ?_
    refine sfA (sg (sp_loadRow tyR39_w (od rfl))) ?_
    refine sfA (sg (sp_fieldAddr fd23_1 (od rfl))) ?_
    refine sfA (sg (sp_load ty3 (od rfl))) ?_
    refine sfA (sg (sp_fieldAddrRow fdR80_1_1 (od_mono (od rfl) fun _ _ k => ⟨k.1.2, k.2⟩))) ?_
    refine sfA (sg (sp_loadRow tyR39_w (od rfl))) ?_
    refine sfA (sg (sp_fieldAddr fd23_1 (od rfl))) ?_
    refine sfA (sg (sp_load ty3 (od rfl))) ?_
    refine sfA (sg (sp_indexAddrOS sl39 (od rfl) (od rfl) e_14)) ?_
    refine sfA (sg (sp_loadEA ty3 (od rfl))) ?_
    refine sfA (sg (sp_fieldAddr fd23_2 (od rfl))) ?_
    refine sfA (sg (sp_load ty3 (od rfl))) ?_
    refine sfA (sg (sp_sub (od rfl) (odi))) ?_
    refine sfA (sg (sp_min (od rfl) (od rfl))) ?_
    refine sfA (sg (sp_indexAddrOS sl39 (od rfl) (od rfl) e_16)) ?_
    refine sfT ?_
    refine sfN fun c a w hS hC => ?_
    refine ls ?_
    refine s_storeEA (k := 0) (j := (v_5 : S_api_Turn).2.1) (Δ := [(1, isV (α := List Int) p1), (3, isA (α := S_api_Roster) p0), (5, isA (α := S_watch_bounds) p2), (8, isA (α := S_api_Turn) (v_5 : S_api_Turn)), (9, Pr.ptr b_12), (46, isV (α := Int) (imin v_13 (wr ((v_5 : S_api_Turn).2.2.1 - 1)))), (47, isEP Int u_10 ((v_5 : S_api_Turn).2.1).toNat)]) ty3 hS rfl ⟨od rfl, od rfl, od rfl, od rfl, odBxS1 rfl, od rfl, odEP rfl, trivial⟩ ⟨fun _ _ _ _ h => h, fun _ _ _ _ h => h, fun _ _ _ _ h => h, fun _ _ _ _ h => h, fun _ _ _ _ h => h, fun _ _ _ _ h => h, fun _ _ _ _ h => h, trivial⟩ (odEP rfl) (od rfl) e_18 fun w hS hM => ?_
    have hS : St _ F0 [Item.sl (α := Int) 3 u_10 z_17, Item.box (α := (List Int) × Raw) 80 b_12 (p2.1, (Raw.mk u_10))] _ w0 _ _ := hS
    have hC := Mem.le_trans hC hM
    refine s_next hC ?_
    refine s_done ?_
    refine et ?_
    refine ws ?_
    refine ws ?_
    have hS := st_unraw 0 0 hS rfl rfl (UnR.snd UnR.self)
    have hS : St _ F0 [Item.box (α := S_watch_bounds) 80 b_12 ((p2.1, z_17) : S_watch_bounds)] _ w0 _ _ := hS
    have hS := st_box 0 9 hS rfl rfl
    obtain ⟨z_19, e_20, h⟩ := bind_some h
    obtain ⟨v_21, e_22, h⟩ := bind_some h
    refine st_reg mixed (by kernel_rfl) hS ?_
    refine cg (sp_load ty34 (od rfl)) ?_
    refine mv rfl ?_
    refine cg (sp_sliceFrom sl39 (od rfl) (odi) e_20) ?_
    refine cg (sp_loadB ty80 (odB rfl)) ?_
    refine cg (sp_call en50 (ih e_22) ⟨od rfl, od rfl, od rfl, trivial⟩) ?_
    refine mv rfl ?_
    refine cg (sp_extract (od rfl) rfl) ?_
    refine cg (sp_extract (od rfl) rfl) ?_
    refine cg (sp_assign (od rfl)) ?_
    refine cg (sp_assign (od rfl)) ?_
    refine sn fun a w hS => ?_
    refine et ?_
    refine ws ?_
    refine st_reg mixed (by kernel_rfl) hS ?_
    refine mv rfl ?_
    refine sn fun a w hS => ?_
    refine et ?_
    refine st_cond hS rfl (fun hb => ?_) (fun hb => ?_)
    · have h := ite_t hb h
      refine ws ?_
      have hS := st_drop 0 hS
      refine st_reg mixed (by kernel_rfl) hS ?_
      refine mv rfl ?_
      refine cg (sp_assign (od rfl)) ?_
      refine cg (sp_assign (odb)) ?_
      refine sn fun a w hS => ?_
      refine et ?_
      refine wp_ret ?_
      refine exit_thenR ?_
      cases h
      exact st_ret hS (run_results2 Tryz.results50 a w) (⟨_, rfl, hS.get rfl, hS.get rfl, trivial⟩)
    have h := ite_f hb h
    refine wp_skip ?_
    refine et ?_
    refine ws ?_
    obtain ⟨m_23, e_24, h⟩ := bind_some h
    refine st_float mixed [0, 0, 2, 1, 1, 2, 2] (by kernel_rfl) (by kernel_rfl) hS ?_
    refine sfA (sg (sp_fieldAddr fd80_0 (od rfl))) ?_
    refine sfA (sg (sp_load ty39 (od rfl))) ?_
    refine sfT ?_
    refine sfF (sy (sy_fieldAddr fd80_1 (od rfl))) ?_
    refine sfF (sy (sy_load ty39 (od rfl))) ?_
    refine sfT ?_
    refine sfT ?_
    refine sfN fun c a w hS hC => ?_
    refine ls ?_
    refine s_callI en93 (f93_ok e_24) hS ⟨od rfl, trivial⟩ rfl fun a w u_25 x_26 hS hM => ?_
    have hS : St _ F0 [Item.box (α := S_watch_bounds) 80 b_12 ((p2.1, z_17) : S_watch_bounds), Item.sl (α := Int) 3 u_25 m_23] _ w0 _ _ := hS
    have hC := Mem.le_trans hC hM
    refine s_next hC ?_
    refine ls ?_
    refine s_c hS (sg (bdR80_01_0 (odRaw (od rfl) (hS.one (k := 1) rfl)) (od rfl))) rfl fun a w hS hM => ?_
    have hC := Mem.le_trans hC hM
    refine s_next hC ?_
    refine ls ?_
    refine s_storeB2 (α := S_watch_bounds) (k := 0) (Δ := [(1, isV (α := List Int) p1), (3, isA (α := S_api_Roster) p0), (8, isA (α := S_api_Turn) (v_5 : S_api_Turn)), (9, Pr.ptr b_12), (63, isV (α := Raw × (List Int)) ((Raw.mk u_25), p2.2))]) tyR80_0 rfl hS rfl ⟨od rfl, od rfl, od rfl, odBx rfl, od rfl, trivial⟩ ⟨fun _ _ _ _ h => h, fun _ _ _ _ h => h, fun _ _ _ _ h => h, fun _ _ _ _ h => h, fun _ _ _ _ h => h, trivial⟩ rfl (od rfl) fun w hS hM => ?_
    have hS : St _ F0 [Item.box (α := Raw × (List Int)) 80 b_12 ((Raw.mk u_25), p2.2), Item.sl (α := Int) 3 u_25 m_23] _ w0 _ _ := hS
    have hC := Mem.le_trans hC hM
    refine s_next hC ?_
    refine s_done ?_
    refine et ?_
    refine ws ?_
    have hS := st_box 0 9 hS rfl rfl
    have hS := st_row 1 9 hS rfl rfl
    obtain ⟨v_27, e_28, h⟩ := bind_some h
    obtain ⟨v_29, e_30, h⟩ := bind_some h
    obtain ⟨z_31, e_32, h⟩ := bind_some h
    refine st_float mixed [0, 0, 0, 0, 0, 0, 0, 0, 0, 0, 0, 0, 0, 0, 2] (by kernel_rfl) (by kernel_rfl) hS ?_
    refine sfA (sg (sp_fieldAddrRow fdR80_0_0 (od_mono (od rfl) fun _ _ k => ⟨k.1.2, k.2⟩))) ?_
    refine sfA (sg (sp_loadRow tyR39_w (od rfl))) ?_
    refine sfA (sg (sp_fieldAddr fd23_3 (od rfl))) ?_
    refine sfA (sg (sp_load ty3 (od rfl))) ?_
    refine sfA (sg (sp_fieldAddrRow fdR80_0_0 (od_mono (od rfl) fun _ _ k => ⟨k.1.2, k.2⟩))) ?_
    refine sfA (sg (sp_loadRow tyR39_w (od rfl))) ?_
    refine sfA (sg (sp_fieldAddr fd23_3 (od rfl))) ?_
    refine sfA (sg (sp_load ty3 (od rfl))) ?_
    refine sfA (sg (sp_indexAddrOS sl39 (od rfl) (od rfl) e_28)) ?_
    refine sfA (sg (sp_loadEA ty3 (od rfl))) ?_
    refine sfA (sg (sp_fieldAddr fd23_4 (od rfl))) ?_
    refine sfA (sg (sp_load ty3 (od rfl))) ?_
    refine sfA (sg (sp_max (od rfl) (od rfl))) ?_
    refine sfA (sg (sp_indexAddrOS sl39 (od rfl) (od rfl) e_30)) ?_
    refine sfT ?_
    refine sfN fun c a w hS hC => ?_
    refine ls ?_
    refine s_storeEA (k := 1) (j := (v_5 : S_api_Turn).2.2.2.1) (Δ := [(1, isV (α := List Int) p1), (3, isA (α := S_api_Roster) p0), (9, Pr.ptr b_12), (76, isV (α := Int) (imax v_27 ((v_5 : S_api_Turn).2.2.2.2.1))), (77, isEP Int u_25 ((v_5 : S_api_Turn).2.2.2.1).toNat)]) ty3 hS rfl ⟨od rfl, od rfl, odBxS1 rfl, od rfl, odEP rfl, trivial⟩ ⟨fun _ _ _ _ h => h, fun _ _ _ _ h => h, fun _ _ _ _ h => h, fun _ _ _ _ h => h, fun _ _ _ _ h => h, trivial⟩ (odEP rfl) (od rfl) e_32 fun w hS hM => ?_
    have hS : St _ F0 [Item.box (α := Raw × (List Int)) 80 b_12 ((Raw.mk u_25), p2.2), Item.sl (α := Int) 3 u_25 z_31] _ w0 _ _ := hS
    have hC := Mem.le_trans hC hM
    refine s_next hC ?_
    refine s_done ?_
    refine et ?_
    refine ws ?_
    have hS := st_unraw 1 0 hS rfl rfl (UnR.fst UnR.self)
    have hS : St _ F0 [Item.box (α := S_watch_bounds) 80 b_12 ((z_31, p2.2) : S_watch_bounds)] _ w0 _ _ := hS
    have hS := st_box 0 9 hS rfl rfl
    obtain ⟨z_33, e_34, h⟩ := bind_some h
    obtain ⟨v_35, e_36, h⟩ := bind_some h
    refine st_reg mixed (by kernel_rfl) hS ?_
    refine cg (sp_load ty34 (od rfl)) ?_
    refine mv rfl ?_
    refine cg (sp_sliceFrom sl39 (od rfl) (odi) e_34) ?_
    refine cg (sp_loadB ty80 (odB rfl)) ?_
    refine cg (sp_call en50 (ih e_36) ⟨od rfl, od rfl, od rfl, trivial⟩) ?_
    refine cg (sp_extract (od rfl) rfl) ?_
    refine cg (sp_extract (od rfl) rfl) ?_
    refine cg (sp_assign (od rfl)) ?_
    refine cg (sp_assign (od rfl)) ?_
    refine sn fun a w hS => ?_
    refine et ?_
    refine wp_ret ?_
    cases h
    exact st_ret hS (run_results2 Tryz.results50 a w) (⟨_, rfl, hS.get rfl, hS.get rfl, trivial⟩)

theorem f18_ok {fuel : Nat} {p0 : S_api_Roster} {p1 : Int} {p2 : List Int} {r : (List Int) × Bool × Int} (h : M.f18 fuel p0 p1 p2 = some r) : CallOK Tryz.prog 18 [isV p0, isV p1, isV p2] (isTup [isV r.1, isV r.2.1, isV r.2.2]) := by
  unfold M.f18 at h
  refine callS_of Tryz.func18 rfl Tryz.ntmps18 rfl fun F0 w0 a hS => ?_
  refine ws ?_
  refine st_reg mixed (by kernel_rfl) hS ?_
  refine cg (sp_box (od rfl)) ?_
  refine cg (sp_assign (odnil (α := Int))) ?_
  refine cg (sp_assign (odb)) ?_
  refine cg (sp_assign (odi)) ?_
  refine sn fun a w hS => ?_
  refine et ?_
  refine ws ?_
  refine ws ?_
  obtain ⟨v_1, e_2, h⟩ := bind_some h
  refine st_reg mixed (by kernel_rfl) hS ?_
  refine cg (sp_load ty34 (od rfl)) ?_
  refine mv rfl ?_
  refine mv rfl ?_
  refine cg (sp_call en48 (f48_ok e_2) ⟨od rfl, od rfl, od rfl, trivial⟩) ?_
  refine cg (sp_assign (od rfl)) ?_
  refine sn fun a w hS => ?_
  refine et ?_
  refine ws ?_
  refine st_reg mixed (by kernel_rfl) hS ?_
  refine mv rfl ?_
  refine cg (sp_neq (od rfl) (odi)) ?_
  refine sn fun a w hS => ?_
  refine et ?_
  refine st_cond hS rfl (fun hb => ?_) (fun hb => ?_)
  · have h := ite_t hb h
    refine ws ?_
    refine st_reg mixed (by kernel_rfl) hS ?_
    refine mv rfl ?_
    refine cg (sp_assign (odnil (α := Int))) ?_
    refine cg (sp_assign (odb)) ?_
    refine cg (sp_assign (od rfl)) ?_
    refine sn fun a w hS => ?_
    refine et ?_
    refine wp_ret ?_
    refine exit_thenR ?_
    cases h
    exact st_ret hS (run_results3 Tryz.results18 a w) (⟨_, rfl, hS.get rfl, hS.get rfl, hS.get rfl, trivial⟩)
  have h := ite_f hb h
  refine wp_skip ?_
  refine et ?_
  refine ws ?_
  refine st_reg mixed (by kernel_rfl) hS ?_
  refine cg (sp_fieldAddr fd34_3 (od rfl)) ?_
  refine cg (sp_load ty31 (od rfl)) ?_
  refine cg (sp_len Tryz.underlying31 (od rfl)) ?_
  refine cg (sp_assign (od rfl)) ?_
  refine sn fun a w hS => ?_
  refine et ?_
  refine ws ?_
  obtain ⟨m_3, e_4, h⟩ := bind_some h
  obtain ⟨m_7, e_8, h⟩ := bind_some h
  refine l_start ?_
  refine s_c hS (sg (sp_buildSlice [.const (.int .i64 (-67108864))] ([(-67108864)] : List Int) sl39 ze3 rfl rfl rfl rfl ⟨odi, trivial⟩)) rfl fun a w hS hM => ?_
  refine s_c hS (sg (sp_move (od rfl))) rfl fun a w hS hM => ?_
  refine s_callI en49 (f49_ok e_4) hS ⟨od rfl, od rfl, trivial⟩ rfl fun a w u_5 x_6 hS hM => ?_
  have hS : St _ F0 [Item.sl (α := Int) 3 u_5 m_3] _ w0 _ _ := hS
  refine s_c hS (sg (sp_buildSlice [.const (.int .i64 (67108864))] ([67108864] : List Int) sl39 ze3 rfl rfl rfl rfl ⟨odi, trivial⟩)) rfl fun a w hS hM => ?_
  refine s_c hS (sg (sp_move (od rfl))) rfl fun a w hS hM => ?_
  refine s_callI en49 (f49_ok e_8) hS ⟨od rfl, od rfl, trivial⟩ rfl fun a w u_9 x_10 hS hM => ?_
  have hS : St _ F0 [Item.sl (α := Int) 3 u_5 m_3, Item.sl (α := Int) 3 u_9 m_7] _ w0 _ _ := hS
  refine s_c hS (sg (bdR80_01_01 (odRaw (od rfl) (hS.one (k := 0) rfl)) (odRaw (od rfl) (hS.one (k := 1) rfl)))) rfl fun a w hS hM => ?_
  refine s_alloc zi80 hS rfl fun a w b_11 hS hM => ?_
  have hS : St _ F0 [Item.sl (α := Int) 3 u_5 m_3, Item.sl (α := Int) 3 u_9 m_7, Item.box (α := S_watch_bounds) 80 b_11 (([], []) : S_watch_bounds)] _ w0 _ _ := hS
  refine s_storeB2 (α := S_watch_bounds) (k := 2) (Δ := [(2, isV (α := List Int) p2), (3, isA (α := S_api_Roster) p0), (11, Pr.ptr b_11), (30, isV (α := Raw × Raw) ((Raw.mk u_5), (Raw.mk u_9)))]) tyR80_01 rfl hS rfl ⟨od rfl, od rfl, od rfl, od rfl, trivial⟩ ⟨fun _ _ _ _ h => h, fun _ _ _ _ h => h, fun _ _ _ _ h => h, fun _ _ _ _ h => h, trivial⟩ rfl (od rfl) fun w hS hM => ?_
  have hS : St _ F0 [Item.sl (α := Int) 3 u_5 m_3, Item.sl (α := Int) 3 u_9 m_7, Item.box (α := Raw × Raw) 80 b_11 ((Raw.mk u_5), (Raw.mk u_9))] _ w0 _ _ := hS
  refine l_end ?_
  refine et ?_
  refine ws ?_
  obtain ⟨v_12, e_13, h⟩ := bind_some h
  obtain ⟨z_14, e_15, h⟩ := bind_some h
  obtain ⟨v_16, e_17, h⟩ := bind_some h
  obtain ⟨z_18, e_19, h⟩ := bind_some h
  have hS := st_freezeB 2 11 hS rfl rfl
  have hS := st_row 0 11 hS rfl rfl
  have hS := st_row 1 11 hS rfl rfl
  refine st_float mixed [0, 0, 1, 1, 0, 0, 1, 1, 1, 0, 2, 2, 2] (by kernel_rfl) (by kernel_rfl) hS ?_
  refine sfA (sg (sp_fieldAddrR fdR80_01_0 (od_mono (od rfl) fun _ _ k => ⟨k.1.1, k.1.2⟩))) ?_
  refine sfA (sg (sp_loadR tyR39_w (od rfl))) ?_
  refine sfF (sy (sy_fieldAddrR fdR80_01_1 (od_mono (od rfl) fun _ _ k => ⟨k.1.1, k.2⟩))) ?_
  refine sfF (sy (sy_loadR tyR39_w (od rfl))) ?_
  refine sfA (sg (sp_fieldAddr fd34_1 (od rfl))) ?_
  refine sfA (sg (sp_load ty3 (od rfl))) ?_
  refine sfF (sy (sy_fieldAddr fd34_2 (od rfl))) ?_
  refine sfF (sy (sy_load ty3 (od rfl))) ?_
  refine sfF (sy (sy_sub (od rfl) (odi))) ?_
  refine sfA (sg (sp_indexAddrOS sl39 (od rfl) (odi) e_13)) ?_
  refine sfT ?_
  refine sfT ?_
  refine sfT ?_
  refine sfN fun c a w hS hC => ?_
  refine ls ?_
  refine s_storeEA (k := 0) (j := 0) (Δ := [(2, isV (α := List Int) p2), (3, isA (α := S_api_Roster) p0), (11, isA (α := Raw × Raw) ((Raw.mk u_5), (Raw.mk u_9))), (34, Pr.is u_9), (36, isV (α := Int) p0.2.1), (39, isV (α := Int) (wr (p0.2.2.1 - 1))), (40, isEP Int u_5 (0 : Int).toNat)]) ty3 hS rfl ⟨od rfl, od rfl, odRA2 rfl, odOS rfl, od rfl, od rfl, odEP rfl, trivial⟩ ⟨fun _ _ _ _ h => h, fun _ _ _ _ h => h, fun _ _ _ _ h => h, fun _ _ _ _ h => h, fun _ _ _ _ h => h, fun _ _ _ _ h => h, fun _ _ _ _ h => h, trivial⟩ (odEP rfl) (od rfl) e_15 fun w hS hM => ?_
  have hS : St _ F0 [Item.sl (α := Int) 3 u_5 z_14, Item.sl (α := Int) 3 u_9 m_7] _ w0 _ _ := hS
  have hC := Mem.le_trans hC hM
  refine s_next hC ?_
  refine ls ?_
  have hS := st_os 1 34 hS rfl rfl
  refine s_c hS (sg (sp_indexAddrOS sl39 (od rfl) (odi) e_17)) rfl fun a w hS hM => ?_
  have hC := Mem.le_trans hC hM
  refine s_next hC ?_
  refine ls ?_
  refine s_storeEA (k := 1) (j := 0) (Δ := [(2, isV (α := List Int) p2), (3, isA (α := S_api_Roster) p0), (11, isA (α := Raw × Raw) ((Raw.mk u_5), (Raw.mk u_9))), (39, isV (α := Int) (wr (p0.2.2.1 - 1))), (41, isEP Int u_9 (0 : Int).toNat)]) ty3 hS rfl ⟨od rfl, od rfl, od rfl, od rfl, odEP rfl, trivial⟩ ⟨fun _ _ _ _ h => h, fun _ _ _ _ h => h, fun _ _ _ _ h => h, fun _ _ _ _ h => h, fun _ _ _ _ h => h, trivial⟩ (odEP rfl) (od rfl) e_19 fun w hS hM => ?_
  have hS : St _ F0 [Item.sl (α := Int) 3 u_5 z_14, Item.sl (α := Int) 3 u_9 z_18] _ w0 _ _ := hS
  have hC := Mem.le_trans hC hM
  refine s_next hC ?_
  refine s_done ?_
  have hS := st_thaw 0 11 hS rfl rfl (UnR.fst UnR.self)
  have hS := st_thaw 0 11 hS rfl rfl (UnR.snd UnR.self)
  refine et ?_
  refine ws ?_
  obtain ⟨v_20, e_21, h⟩ := bind_some h
  refine st_reg mixed (by kernel_rfl) hS ?_
  refine cg (sp_load ty34 (od rfl)) ?_
  refine mv rfl ?_
  refine cg (sp_load ty80 (od rfl)) ?_
  refine cg (sp_call en50 (f50_ok e_21) ⟨od rfl, od rfl, od rfl, trivial⟩) ?_
  refine mv rfl ?_
  refine cg (sp_extract (od rfl) rfl) ?_
  refine cg (sp_extract (od rfl) rfl) ?_
  refine cg (sp_assign (od rfl)) ?_
  refine cg (sp_assign (od rfl)) ?_
  refine sn fun a w hS => ?_
  refine et ?_
  refine ws ?_
  refine st_reg mixed (by kernel_rfl) hS ?_
  refine mv rfl ?_
  refine mv rfl ?_
  refine cg (sp_assign (od rfl)) ?_
  refine cg (sp_assign (od rfl)) ?_
  refine cg (sp_assign (odi)) ?_
  refine sn fun a w hS => ?_
  refine et ?_
  refine wp_ret ?_
  cases h
  exact st_ret hS (run_results3 Tryz.results18 a w) (⟨_, rfl, hS.get rfl, hS.get rfl, hS.get rfl, trivial⟩)

theorem f5_ok {p0 : S_api_Turn} {r : ByteArray × Int} (h : M.f5 p0 = some r) : CallT Tryz.prog 5 [isV p0] (isTup [isV r.1, isV r.2]) := by
  unfold M.f5 at h
  refine callT_of Tryz.func5 rfl Tryz.ntmps5 rfl fun F0 w0 a hT hS => ?_
  refine ws ?_
  refine st_reg mixed (by kernel_rfl) hS ?_
  refine cg (sp_box (od rfl)) ?_
  refine cg (sp_assign (φ := isV ((⟨#[]⟩ : ByteArray) : ByteArray)) (ods)) ?_
  refine cg (sp_assign (odi)) ?_
  refine sn fun a w hS => ?_
  refine et ?_
  refine ws ?_
  refine ws ?_
  obtain ⟨v_1, e_2, h⟩ := bind_some h
  refine st_reg mixed (by kernel_rfl) hS ?_
  refine cg (sp_load ty23 (od rfl)) ?_
  refine cg (sp_call en26 (f26_ok e_2) ⟨od rfl, trivial⟩) ?_
  refine cg (sp_not (od rfl)) ?_
  refine sn fun a w hS => ?_
  refine et ?_
  refine st_cond hS rfl (fun hb => ?_) (fun hb => ?_)
  · have h := ite_t hb h
    refine ws ?_
    refine st_reg mixed (by kernel_rfl) hS ?_
    refine cg (sp_assign (φ := isV ((⟨#[]⟩ : ByteArray) : ByteArray)) (ods)) ?_
    refine cg (sp_assign (odi)) ?_
    refine sn fun a w hS => ?_
    refine et ?_
    refine wp_ret ?_
    refine exit_thenR ?_
    cases h
    exact st_ret hS (run_results2 Tryz.results5 a w) (⟨_, rfl, hS.get rfl, hS.get rfl, trivial⟩)
  have h := ite_f hb h
  refine wp_skip ?_
  refine et ?_
  refine ws ?_
  refine st_reg mixed (by kernel_rfl) hS ?_
  refine cg (sp_assign (φ := Pr.is (.slice none 0 0)) (odc fun _ => rfl)) ?_
  refine sn fun a w hS => ?_
  have hS := st_nil (α := ByteArray) 9 hS
  have hS : St _ F0 [Item.sl (α := ByteArray) 9 (.slice none 0 0) ([] : List ByteArray)] _ w0 _ _ := hS
  refine et ?_
  refine ws ?_
  refine ws ?_
  refine st_reg mixed (by kernel_rfl) hS ?_
  refine cg (sp_fieldAddr fd23_0 (od rfl)) ?_
  refine cg (sp_load ty3 (od rfl)) ?_
  refine cg (sp_fieldAddr fd23_1 (od rfl)) ?_
  refine cg (sp_load ty3 (od rfl)) ?_
  refine cg (sp_fieldAddr fd23_2 (od rfl)) ?_
  refine cg (sp_load ty3 (od rfl)) ?_
  refine cg (sp_fieldAddr fd23_3 (od rfl)) ?_
  refine cg (sp_load ty3 (od rfl)) ?_
  refine cg (sp_fieldAddr fd23_4 (od rfl)) ?_
  refine cg (sp_load ty3 (od rfl)) ?_
  refine cg (sp_fieldAddr fd23_5 (od rfl)) ?_
  refine cg (sp_load ty3 (od rfl)) ?_
  refine cg (sp_buildSlice [.tmp 11, .tmp 13, .tmp 15, .tmp 17, .tmp 19, .tmp 21] ([p0.1, p0.2.1, p0.2.2.1, p0.2.2.2.1, p0.2.2.2.2.1, p0.2.2.2.2.2] : List Int) sl39 ze3 rfl rfl rfl rfl ⟨od rfl, od rfl, od rfl, od rfl, od rfl, od rfl, trivial⟩) ?_
  refine cg (sp_len Tryz.underlying39 (od rfl)) ?_
  refine cg (sp_move (odi)) ?_
  refine sn fun a w hS => ?_
  refine et ?_
  refine wp_block ?_
  obtain ⟨o_6, e_7, hr_8⟩ := bind_some h
  refine c_loop (fun K a w => ∃ k i_3 s_5, ∃ u_9 : Value, K = k + 1 ∧ ForT _ _ _ o_6 k i_3 s_5 ∧ St 36 F0 [Item.sl (α := ByteArray) 9 u_9 s_5] [(4, Pr.is u_9), (22, isV (α := List Int) ([p0.1, p0.2.1, p0.2.2.1, p0.2.2.2.1, p0.2.2.2.2.1, p0.2.2.2.2.2] : List Int)), (23, isV (α := Int) (([p0.1, p0.2.1, p0.2.2.1, p0.2.2.2.1, p0.2.2.2.2.1, p0.2.2.2.2.2] : List Int).length : Int)), (24, isV (α := Int) i_3)] w0 a w) ?_ ?_ ⟨_, _, _, (.slice none 0 0), rfl, fors_init e_7, hS.weak ⟨od rfl, od rfl, od rfl, od rfl, trivial⟩⟩
  · rintro a w ⟨_, _, _, _, hk, _⟩; cases hk
  rintro K a w ⟨k_6, i_3, s_5, u_9, hk, hF_6, hS⟩
  obtain rfl := Nat.succ.inj hk
  refine ws ?_
  refine st_reg mixed (by kernel_rfl) hS ?_
  refine cg (sp_lss (od rfl) (od rfl)) ?_
  refine sn fun a w hS => ?_
  refine et ?_
  refine ws ?_
  refine st_cond hS rfl (fun hb => ?_) (fun hb => ?_)
  · refine wp_skip ?_
    refine et ?_
    obtain ⟨k_6, s', rfl, h, hF_6, hw_6⟩ := fors_more hF_6 hb
    refine ws ?_
    refine wp_block ?_
    refine ws ?_
    obtain ⟨v_10, e_11, h⟩ := bind_some h
    refine st_reg mixed (by kernel_rfl) hS ?_
    refine cg (sp_indexAddr sl39 (od rfl) (od rfl) e_11) ?_
    refine cg (sp_load ty3 (od rfl)) ?_
    refine cg (sp_assign (od rfl)) ?_
    refine sn fun a w hS => ?_
    refine et ?_
    obtain ⟨v_12, e_13, h⟩ := bind_some h
    obtain ⟨z_14, e_15, h⟩ := bind_some h
    refine l_start ?_
    refine s_c hS (sg (sp_move (od rfl))) rfl fun a w hS hM => ?_
    refine s_c hS (sg (sp_move (od rfl))) rfl fun a w hS hM => ?_
    refine s_callT en27 (f27_ok e_13) hT hS ⟨od rfl, trivial⟩ rfl fun a w hS hM => ?_
    refine s_c hS (sg (sp_buildSlice [.tmp 30] ([v_12] : List ByteArray) sl54 ze9 rfl rfl rfl rfl ⟨od rfl, trivial⟩)) rfl fun a w hS hM => ?_
    refine s_append (k := 0) (Δ := [(22, isV (α := List Int) ([p0.1, p0.2.1, p0.2.2.1, p0.2.2.2.1, p0.2.2.2.2.1, p0.2.2.2.2.2] : List Int)), (23, isV (α := Int) (([p0.1, p0.2.1, p0.2.2.1, p0.2.2.2.1, p0.2.2.2.2.1, p0.2.2.2.2.2] : List Int).length : Int)), (24, isV (α := Int) i_3), (28, Pr.is u_9), (31, isV (α := List ByteArray) ([v_12] : List ByteArray))]) sl54 ze9 hS rfl ⟨od rfl, od rfl, od rfl, od rfl, od rfl, trivial⟩ ⟨fun _ _ _ _ h => h, fun _ _ _ _ h => h, fun _ _ _ _ h => h, fun _ _ _ _ h => h, fun _ _ _ _ h => h, trivial⟩ (od rfl) (od rfl) e_15 rfl fun a w u_16 hS hM => ?_
    have hS : St _ F0 [Item.sl (α := ByteArray) 9 u_16 z_14] _ w0 _ _ := hS
    refine s_c hS (sg (sp_assign (od rfl))) rfl fun a w hS hM => ?_
    refine l_end ?_
    refine exit_block ?_
    refine et ?_
    refine st_reg mixed (by kernel_rfl) hS ?_
    refine cg (sp_add (od rfl) (odi)) ?_
    refine mv rfl ?_
    refine sn fun a w hS => ?_
    cases h
    exact ⟨k_6, _, _, u_16, rfl, hF_6, hS.weak ⟨od rfl, od rfl, od rfl, od (congrArg (fun z => some (isV (α := Int) z)) hw_6), trivial⟩⟩
  refine wp_exit ?_
  obtain rfl := (fors_done hF_6 hb).symm
  have h := hr_8
  refine exit_thenE ?_
  refine exit_thenE ?_
  refine exit_here ?_
  refine et ?_
  refine ws ?_
  have hS := st_freeze 0 4 hS rfl rfl
  obtain ⟨v_17, e_18, h⟩ := bind_some h
  refine st_reg mixed (by kernel_rfl) hS ?_
  refine mv rfl ?_
  refine cg (sp_call en28 (f28_ok e_18) ⟨od rfl, ods, trivial⟩) ?_
  refine cg (sp_assign (od rfl)) ?_
  refine cg (sp_assign (odi)) ?_
  refine sn fun a w hS => ?_
  refine et ?_
  refine wp_ret ?_
  cases h
  exact st_ret hS (run_results2 Tryz.results5 a w) (⟨_, rfl, hS.get rfl, hS.get rfl, trivial⟩)

theorem f20_ok {p0 : List Int} {p1 : List Int} {r : Bool} (h : M.f20 p0 p1 = some r) : CallOK Tryz.prog 20 [isV p0, isV p1] (isV r) := by
  unfold M.f20 at h
  refine callS_of Tryz.func20 rfl Tryz.ntmps20 rfl fun F0 w0 a hS => ?_
  refine ws ?_
  refine st_reg mixed (by kernel_rfl) hS ?_
  refine cg (sp_assign (odb)) ?_
  refine sn fun a w hS => ?_
  refine et ?_
  refine ws ?_
  refine ws ?_
  refine st_reg mixed (by kernel_rfl) hS ?_
  refine mv rfl ?_
  refine cg (sp_len Tryz.underlying39 (od rfl)) ?_
  refine mv rfl ?_
  refine cg (sp_len Tryz.underlying39 (od rfl)) ?_
  refine cg (sp_neq (od rfl) (od rfl)) ?_
  refine sn fun a w hS => ?_
  refine et ?_
  refine st_cond hS rfl (fun hb => ?_) (fun hb => ?_)
  · have h := ite_t hb h
    refine ws ?_
    refine st_reg mixed (by kernel_rfl) hS ?_
    refine cg (sp_assign (odb)) ?_
    refine sn fun a w hS => ?_
    refine et ?_
    refine wp_ret ?_
    refine exit_thenR ?_
    cases h
    exact st_ret hS (run_results1 Tryz.results20 a w) (hS.get rfl)
  have h := ite_f hb h
  refine wp_skip ?_
  refine et ?_
  refine ws ?_
  refine ws ?_
  refine st_reg mixed (by kernel_rfl) hS ?_
  refine mv rfl ?_
  refine cg (sp_len Tryz.underlying39 (od rfl)) ?_
  refine cg (sp_move (odi)) ?_
  refine sn fun a w hS => ?_
  refine et ?_
  refine wp_block ?_
  obtain ⟨o_4, e_5, hr_6⟩ := bind_some h
  refine c_loop (fun K a w => ∃ k i_1 s_3, K = k + 1 ∧ ForI _ _ _ o_4 k i_1 s_3 ∧ St 26 F0 [] [(0, isV (α := List Int) p0), (1, isV (α := List Int) p1), (12, isV (α := Int) (p0.length : Int)), (13, isV (α := Int) i_1)] w0 a w) ?_ ?_ ⟨_, _, _, rfl, for_init e_5, hS.weak ⟨od rfl, od rfl, od rfl, od rfl, trivial⟩⟩
  · rintro a w ⟨_, _, _, hk, _⟩; cases hk
  rintro K a w ⟨k_4, i_1, s_3, hk, hF_4, hS⟩
  obtain rfl := Nat.succ.inj hk
  refine ws ?_
  refine st_reg mixed (by kernel_rfl) hS ?_
  refine cg (sp_lss (od rfl) (od rfl)) ?_
  refine sn fun a w hS => ?_
  refine et ?_
  refine ws ?_
  refine st_cond hS rfl (fun hb => ?_) (fun hb => ?_)
  · refine wp_skip ?_
    refine et ?_
    obtain ⟨k_4, o, rfl, h, hN_4, hL_4, hw_4⟩ := for_more hF_4 hb
    refine ws ?_
    refine wp_block ?_
    refine ws ?_
    refine st_reg mixed (by kernel_rfl) hS ?_
    refine mv rfl ?_
    refine cg (sp_assign (od rfl)) ?_
    refine sn fun a w hS => ?_
    refine et ?_
    refine ws ?_
    obtain ⟨v_7, e_8, h⟩ := bind_some h
    obtain ⟨v_9, e_10, h⟩ := bind_some h
    refine st_reg mixed (by kernel_rfl) hS ?_
    refine mv rfl ?_
    refine mv rfl ?_
    refine cg (sp_indexAddr sl39 (od rfl) (od rfl) e_8) ?_
    refine cg (sp_load ty3 (od rfl)) ?_
    refine mv rfl ?_
    refine mv rfl ?_
    refine cg (sp_indexAddr sl39 (od rfl) (od rfl) e_10) ?_
    refine cg (sp_load ty3 (od rfl)) ?_
    refine cg (sp_neq (od rfl) (od rfl)) ?_
    refine sn fun a w hS => ?_
    refine et ?_
    refine st_cond hS rfl (fun hb => ?_) (fun hb => ?_)
    · have h := ite_t hb h
      refine ws ?_
      refine st_reg mixed (by kernel_rfl) hS ?_
      refine cg (sp_assign (odb)) ?_
      refine sn fun a w hS => ?_
      refine et ?_
      refine wp_ret ?_
      refine exit_blockR ?_
      refine exit_thenR ?_
      cases h
      obtain rfl := hL_4 _ rfl
      have h := (elim_leave hr_6)
      refine exit_thenR ?_
      refine exit_blockR ?_
      refine exit_thenR ?_
      cases h
      exact st_ret hS (run_results1 Tryz.results20 a w) (hS.get rfl)
    have h := ite_f hb h
    refine wp_skip ?_
    refine exit_block ?_
    refine et ?_
    refine st_reg mixed (by kernel_rfl) hS ?_
    refine cg (sp_add (od rfl) (odi)) ?_
    refine mv rfl ?_
    refine sn fun a w hS => ?_
    cases h
    exact ⟨k_4, _, _, rfl, hN_4 _ rfl, hS.weak ⟨od rfl, od rfl, od rfl, od (congrArg (fun z => some (isV (α := Int) z)) hw_4), trivial⟩⟩
  refine wp_exit ?_
  obtain rfl := for_done hF_4 hb
  have h := elim_again hr_6
  refine exit_thenE ?_
  refine exit_thenE ?_
  refine exit_here ?_
  refine et ?_
  refine ws ?_
  refine st_reg mixed (by kernel_rfl) hS ?_
  refine cg (sp_assign (odb)) ?_
  refine sn fun a w hS => ?_
  refine et ?_
  refine wp_ret ?_
  cases h
  exact st_ret hS (run_results1 Tryz.results20 a w) (hS.get rfl)

theorem f4_ok {fuel : Nat}  {r : Bool} (h : M.f4 fuel  = some r) : CallT Tryz.prog 4 [] (isV r) := by
  unfold M.f4 at h
  refine callT_of Tryz.func4 rfl Tryz.ntmps4 rfl fun F0 w0 a hT hS => ?_
  refine ws ?_
  refine st_reg mixed (by kernel_rfl) hS ?_
  refine cg (sp_assign (odb)) ?_
  refine sn fun a w hS => ?_
  refine et ?_
  refine ws ?_
  obtain ⟨v_1, e_2, h⟩ := bind_some h
  refine l_start ?_
  refine s_c hS (sg (sp_call en9 (f9_ok e_2) ⟨odi, trivial⟩)) rfl fun a w hS hM => ?_
  refine s_allocStore ze34 hS (od rfl) (fun k hk => by cases hk; rfl) rfl fun a w hS hM => ?_
  refine l_end ?_
  refine et ?_
  refine ws ?_
  obtain ⟨v_3, e_4, h⟩ := bind_some h
  refine st_reg mixed (by kernel_rfl) hS ?_
  refine cg (sp_load ty34 (od rfl)) ?_
  refine cg (sp_call en10 (f10_ok e_4) ⟨od rfl, odi, trivial⟩) ?_
  refine mv rfl ?_
  refine cg (sp_extract (od rfl) rfl) ?_
  refine cg (sp_extract (od rfl) rfl) ?_
  refine cg (sp_assign (od rfl)) ?_
  refine cg (sp_assign (od rfl)) ?_
  refine sn fun a w hS => ?_
  refine et ?_
  refine ws ?_
  obtain ⟨v_5, e_6, h⟩ := bind_some h
  refine st_reg mixed (by kernel_rfl) hS ?_
  refine cg (sp_load ty34 (od rfl)) ?_
  refine cg (sp_call en11 (f11_ok e_6) ⟨od rfl, odi, odi, trivial⟩) ?_
  refine mv rfl ?_
  refine cg (sp_extract (od rfl) rfl) ?_
  refine cg (sp_extract (od rfl) rfl) ?_
  refine cg (sp_assign (od rfl)) ?_
  refine cg (sp_assign (od rfl)) ?_
  refine sn fun a w hS => ?_
  refine et ?_
  refine ws ?_
  obtain ⟨v_7, e_8, h⟩ := bind_some h
  refine st_reg mixed (by kernel_rfl) hS ?_
  refine cg (sp_load ty34 (od rfl)) ?_
  refine cg (sp_call en12 (f12_ok e_8) ⟨od rfl, odi, trivial⟩) ?_
  refine mv rfl ?_
  refine cg (sp_extract (od rfl) rfl) ?_
  refine cg (sp_extract (od rfl) rfl) ?_
  refine cg (sp_assign (od rfl)) ?_
  refine cg (sp_assign (od rfl)) ?_
  refine sn fun a w hS => ?_
  refine et ?_
  refine ws ?_
  obtain ⟨v_9, e_10, h⟩ := bind_some h
  refine st_reg mixed (by kernel_rfl) hS ?_
  refine cg (sp_load ty34 (od rfl)) ?_
  refine cg (sp_buildSlice [.const (.int .i64 (149)), .const (.int .i64 (150))] ([149, 150] : List Int) sl39 ze3 rfl rfl rfl rfl ⟨odi, odi, trivial⟩) ?_
  refine cg (sp_call en13 (f13_ok e_10) ⟨od rfl, od rfl, trivial⟩) ?_
  refine mv rfl ?_
  refine cg (sp_extract (od rfl) rfl) ?_
  refine cg (sp_extract (od rfl) rfl) ?_
  refine cg (sp_assign (od rfl)) ?_
  refine cg (sp_assign (od rfl)) ?_
  refine sn fun a w hS => ?_
  refine et ?_
  refine ws ?_
  obtain ⟨v_11, e_12, h⟩ := bind_some h
  refine st_reg mixed (by kernel_rfl) hS ?_
  refine cg (sp_load ty34 (od rfl)) ?_
  refine cg (sp_call en14 (f14_ok e_12) ⟨od rfl, odi, trivial⟩) ?_
  refine mv rfl ?_
  refine cg (sp_extract (od rfl) rfl) ?_
  refine cg (sp_extract (od rfl) rfl) ?_
  refine cg (sp_extract (od rfl) rfl) ?_
  refine cg (sp_assign (od rfl)) ?_
  refine cg (sp_assign (od rfl)) ?_
  refine cg (sp_assign (od rfl)) ?_
  refine sn fun a w hS => ?_
  refine et ?_
  refine ws ?_
  obtain ⟨v_13, e_14, h⟩ := bind_some h
  refine st_reg mixed (by kernel_rfl) hS ?_
  refine cg (sp_load ty34 (od rfl)) ?_
  refine cg (sp_call en15 (f15_ok e_14) ⟨od rfl, odi, trivial⟩) ?_
  refine mv rfl ?_
  refine cg (sp_extract (od rfl) rfl) ?_
  refine cg (sp_extract (od rfl) rfl) ?_
  refine cg (sp_extract (od rfl) rfl) ?_
  refine cg (sp_assign (od rfl)) ?_
  refine cg (sp_assign (od rfl)) ?_
  refine cg (sp_assign (od rfl)) ?_
  refine sn fun a w hS => ?_
  refine et ?_
  refine ws ?_
  obtain ⟨v_15, e_16, h⟩ := bind_some h
  refine st_reg mixed (by kernel_rfl) hS ?_
  refine cg (sp_load ty34 (od rfl)) ?_
  refine cg (sp_call en16 (f16_ok e_16) ⟨od rfl, odi, trivial⟩) ?_
  refine mv rfl ?_
  refine cg (sp_extract (od rfl) rfl) ?_
  refine cg (sp_extract (od rfl) rfl) ?_
  refine cg (sp_assign (od rfl)) ?_
  refine cg (sp_assign (od rfl)) ?_
  refine sn fun a w hS => ?_
  refine et ?_
  refine ws ?_
  obtain ⟨v_17, e_18, h⟩ := bind_some h
  obtain ⟨v_19, e_20, h⟩ := bind_some h
  refine st_reg mixed (by kernel_rfl) hS ?_
  refine cg (sp_call en9 (f9_ok e_18) ⟨odi, trivial⟩) ?_
  refine cg (sp_call en17 (f17_ok e_20) ⟨od rfl, odi, trivial⟩) ?_
  refine mv rfl ?_
  refine cg (sp_extract (od rfl) rfl) ?_
  refine cg (sp_extract (od rfl) rfl) ?_
  refine cg (sp_extract (od rfl) rfl) ?_
  refine cg (sp_assign (od rfl)) ?_
  refine cg (sp_assign (od rfl)) ?_
  refine cg (sp_assign (od rfl)) ?_
  refine sn fun a w hS => ?_
  refine et ?_
  refine ws ?_
  obtain ⟨v_21, e_22, h⟩ := bind_some h
  refine st_reg mixed (by kernel_rfl) hS ?_
  refine cg (sp_load ty34 (od rfl)) ?_
  refine cg (sp_buildSlice [.const (.int .i64 (0)), .const (.int .i64 (2))] ([0, 2] : List Int) sl39 ze3 rfl rfl rfl rfl ⟨odi, odi, trivial⟩) ?_
  refine cg (sp_call en18 (f18_ok e_22) ⟨od rfl, odi, od rfl, trivial⟩) ?_
  refine mv rfl ?_
  refine cg (sp_extract (od rfl) rfl) ?_
  refine cg (sp_extract (od rfl) rfl) ?_
  refine cg (sp_extract (od rfl) rfl) ?_
  refine cg (sp_assign (od rfl)) ?_
  refine cg (sp_assign (od rfl)) ?_
  refine cg (sp_assign (od rfl)) ?_
  refine sn fun a w hS => ?_
  refine et ?_
  refine ws ?_
  obtain ⟨v_23, e_24, h⟩ := bind_some h
  refine st_reg mixed (by kernel_rfl) hS ?_
  refine cg (sp_load ty34 (od rfl)) ?_
  refine mv rfl ?_
  refine cg (sp_call en19 (f19_ok e_24) ⟨od rfl, odi, od rfl, trivial⟩) ?_
  refine mv rfl ?_
  refine cg (sp_extract (od rfl) rfl) ?_
  refine cg (sp_extract (od rfl) rfl) ?_
  refine cg (sp_assign (od rfl)) ?_
  refine cg (sp_assign (od rfl)) ?_
  refine sn fun a w hS => ?_
  refine et ?_
  refine ws ?_
  obtain ⟨v_25, e_26, h⟩ := bind_some h
  obtain ⟨v_27, e_28, h⟩ := bind_some h
  refine l_start ?_
  refine s_c hS (sg (sp_fieldAddr fd34_4 (od rfl))) rfl fun a w hS hM => ?_
  refine s_c hS (sg (sp_load ty32 (od rfl))) rfl fun a w hS hM => ?_
  refine s_c hS (sg (sp_indexAddr sl32 (od rfl) (odi) e_26)) rfl fun a w hS hM => ?_
  refine s_c hS (sg (sp_load ty23 (od rfl))) rfl fun a w hS hM => ?_
  refine s_callT en5 (f5_ok e_28) hT hS ⟨od rfl, trivial⟩ rfl fun a w hS hM => ?_
  refine s_c hS (sg (sp_move (od rfl))) rfl fun a w hS hM => ?_
  refine s_c hS (sg (sp_extract (od rfl) rfl)) rfl fun a w hS hM => ?_
  refine s_c hS (sg (sp_extract (od rfl) rfl)) rfl fun a w hS hM => ?_
  refine s_c hS (sg (sp_assign (od rfl))) rfl fun a w hS hM => ?_
  refine s_c hS (sg (sp_assign (od rfl))) rfl fun a w hS hM => ?_
  refine l_end ?_
  refine et ?_
  refine ws ?_
  refine ws ?_
  obtain ⟨v_29, e_30, h⟩ := bind_some h
  refine st_reg mixed (by kernel_rfl) hS ?_
  refine mv rfl ?_
  refine cg (sp_neq (od rfl) (odi)) ?_
  refine mv rfl ?_
  refine sc (sgF rfl fun hG => sp_move (od rfl)) ?_
  refine sc (sgF rfl fun hG => sp_not (odw rfl hG)) ?_
  refine cg (sp_pickOr (od rfl) fun hg => odw rfl (not_t hg)) ?_
  refine mv rfl ?_
  refine sc (sgF rfl fun hG => sp_move (od rfl)) ?_
  refine sc (sgF rfl fun hG => sp_neq (odw rfl hG) (odi)) ?_
  refine cg (sp_pickOr (od rfl) fun hg => odw rfl (not_t hg)) ?_
  refine mv rfl ?_
  refine sc (sgF rfl fun hG => sp_move (od rfl)) ?_
  refine cg (sp_pickOr (od rfl) fun hg => odw rfl (not_t hg)) ?_
  refine mv rfl ?_
  refine sc (sgF rfl fun hG => sp_move (od rfl)) ?_
  refine sc (sgF rfl fun hG => sp_neq (odw rfl hG) (odi)) ?_
  refine cg (sp_pickOr (od rfl) fun hg => odw rfl (not_t hg)) ?_
  refine mv rfl ?_
  refine sc (sgF rfl fun hG => sp_move (od rfl)) ?_
  refine cg (sp_pickOr (od rfl) fun hg => odw rfl (not_t hg)) ?_
  refine mv rfl ?_
  refine sc (sgF rfl fun hG => sp_move (od rfl)) ?_
  refine sc (sgF rfl fun hG => sp_neq (odw rfl hG) (odi)) ?_
  refine cg (sp_pickOr (od rfl) fun hg => odw rfl (not_t hg)) ?_
  refine mv rfl ?_
  refine sc (sgF rfl fun hG => sp_move (od rfl)) ?_
  refine sc (sgF rfl fun hG => sp_buildSlice [.const (.int .i64 (0)), .const (.int .i64 (1)), .const (.int .i64 (3))] ([0, 1, 3] : List Int) sl39 ze3 rfl rfl rfl rfl ⟨odi, odi, odi, trivial⟩) ?_
  refine sc (sgF rfl fun hG => sp_call en20 (f20_ok (guard_some e_30 hG)) ⟨odw rfl hG, odw rfl hG, trivial⟩) ?_
  refine sc (sgF rfl fun hG => sp_not (odw rfl hG)) ?_
  refine cg (sp_pickOr (od rfl) fun hg => odw rfl (not_t hg)) ?_
  refine sn fun a w hS => ?_
  refine et ?_
  refine st_cond hS rfl (fun hb => ?_) (fun hb => ?_)
  · have h := ite_t hb h
    refine ws ?_
    refine st_reg mixed (by kernel_rfl) hS ?_
    refine cg (sp_assign (odb)) ?_
    refine sn fun a w hS => ?_
    refine et ?_
    refine wp_ret ?_
    refine exit_thenR ?_
    cases h
    exact st_ret hS (run_results1 Tryz.results4 a w) (hS.get rfl)
  have h := ite_f hb h
  refine wp_skip ?_
  refine et ?_
  refine ws ?_
  refine ws ?_
  obtain ⟨v_31, e_32, h⟩ := bind_some h
  obtain ⟨v_33, e_34, h⟩ := bind_some h
  obtain ⟨v_35, e_36, h⟩ := bind_some h
  refine st_reg mixed (by kernel_rfl) hS ?_
  refine mv rfl ?_
  refine cg (sp_neq (od rfl) (odi)) ?_
  refine mv rfl ?_
  refine sc (sgF rfl fun hG => sp_move (od rfl)) ?_
  refine sc (sgF rfl fun hG => sp_not (odw rfl hG)) ?_
  refine cg (sp_pickOr (od rfl) fun hg => odw rfl (not_t hg)) ?_
  refine mv rfl ?_
  refine sc (sgF rfl fun hG => sp_move (od rfl)) ?_
  refine sc (sgF rfl fun hG => sp_buildSlice [.const (.int .i64 (0)), .const (.int .i64 (1)), .const (.int .i64 (2))] ([0, 1, 2] : List Int) sl39 ze3 rfl rfl rfl rfl ⟨odi, odi, odi, trivial⟩) ?_
  refine sc (sgF rfl fun hG => sp_call en20 (f20_ok (guard_some e_32 hG)) ⟨odw rfl hG, odw rfl hG, trivial⟩) ?_
  refine sc (sgF rfl fun hG => sp_not (odw rfl hG)) ?_
  refine cg (sp_pickOr (od rfl) fun hg => odw rfl (not_t hg)) ?_
  refine mv rfl ?_
  refine sc (sgF rfl fun hG => sp_move (od rfl)) ?_
  refine sc (sgF rfl fun hG => sp_neq (odw rfl hG) (odi)) ?_
  refine cg (sp_pickOr (od rfl) fun hg => odw rfl (not_t hg)) ?_
  refine mv rfl ?_
  refine sc (sgF rfl fun hG => sp_move (od rfl)) ?_
  refine sc (sgF rfl fun hG => sp_not (odw rfl hG)) ?_
  refine cg (sp_pickOr (od rfl) fun hg => odw rfl (not_t hg)) ?_
  refine mv rfl ?_
  refine sc (sgF rfl fun hG => sp_move (od rfl)) ?_
  refine sc (sgF rfl fun hG => sp_buildSlice [.const (.int .i64 (3))] ([3] : List Int) sl39 ze3 rfl rfl rfl rfl ⟨odi, trivial⟩) ?_
  refine sc (sgF rfl fun hG => sp_call en20 (f20_ok (guard_some e_34 hG)) ⟨odw rfl hG, odw rfl hG, trivial⟩) ?_
  refine sc (sgF rfl fun hG => sp_not (odw rfl hG)) ?_
  refine cg (sp_pickOr (od rfl) fun hg => odw rfl (not_t hg)) ?_
  refine mv rfl ?_
  refine sc (sgF rfl fun hG => sp_move (od rfl)) ?_
  refine sc (sgF rfl fun hG => sp_neq (odw rfl hG) (odi)) ?_
  refine cg (sp_pickOr (od rfl) fun hg => odw rfl (not_t hg)) ?_
  refine mv rfl ?_
  refine sc (sgF rfl fun hG => sp_move (od rfl)) ?_
  refine sc (sgF rfl fun hG => sp_buildSlice [.const (.int .i64 (4)), .const (.int .i64 (7)), .const (.int .i64 (9)), .const (.int .i64 (9))] ([4, 7, 9, 9] : List Int) sl39 ze3 rfl rfl rfl rfl ⟨odi, odi, odi, odi, trivial⟩) ?_
  refine sc (sgF rfl fun hG => sp_call en20 (f20_ok (guard_some e_36 hG)) ⟨odw rfl hG, odw rfl hG, trivial⟩) ?_
  refine sc (sgF rfl fun hG => sp_not (odw rfl hG)) ?_
  refine cg (sp_pickOr (od rfl) fun hg => odw rfl (not_t hg)) ?_
  refine sn fun a w hS => ?_
  refine et ?_
  refine st_cond hS rfl (fun hb => ?_) (fun hb => ?_)
  · have h := ite_t hb h
    refine ws ?_
    refine st_reg mixed (by kernel_rfl) hS ?_
    refine cg (sp_assign (odb)) ?_
    refine sn fun a w hS => ?_
    refine et ?_
    refine wp_ret ?_
    refine exit_thenR ?_
    cases h
    exact st_ret hS (run_results1 Tryz.results4 a w) (hS.get rfl)
  have h := ite_f hb h
  refine wp_skip ?_
  refine et ?_
  refine ws ?_
  obtain ⟨v_37, e_38, h⟩ := bind_some h
  obtain ⟨v_39, e_40, h⟩ := bind_some h
  obtain ⟨v_41, e_42, h⟩ := bind_some h
  obtain ⟨v_43, e_44, h⟩ := bind_some h
  obtain ⟨v_45, e_46, h⟩ := bind_some h
  obtain ⟨v_47, e_48, h⟩ := bind_some h
  obtain ⟨v_49, e_50, h⟩ := bind_some h
  obtain ⟨v_51, e_52, h⟩ := bind_some h
  obtain ⟨v_53, e_54, h⟩ := bind_some h
  refine st_reg mixed (by kernel_rfl) hS ?_
  refine mv rfl ?_
  refine cg (sp_eql (od rfl) (odi)) ?_
  refine mv rfl ?_
  refine sc (sgT rfl fun hG => sp_move (od rfl)) ?_
  refine cg (sp_pickAnd (od rfl) fun hg => odw rfl hg) ?_
  refine mv rfl ?_
  refine sc (sgT rfl fun hG => sp_move (od rfl)) ?_
  refine sc (sgT rfl fun hG => sp_buildSlice [.const (.int .i64 (0)), .const (.int .i64 (1))] ([0, 1] : List Int) sl39 ze3 rfl rfl rfl rfl ⟨odi, odi, trivial⟩) ?_
  refine sc (sgT rfl fun hG => sp_call en20 (f20_ok (guard_some e_38 hG)) ⟨odw rfl hG, odw rfl hG, trivial⟩) ?_
  refine cg (sp_pickAnd (od rfl) fun hg => odw rfl hg) ?_
  refine mv rfl ?_
  refine sc (sgT rfl fun hG => sp_move (od rfl)) ?_
  refine sc (sgT rfl fun hG => sp_eql (odw rfl hG) (odi)) ?_
  refine cg (sp_pickAnd (od rfl) fun hg => odw rfl hg) ?_
  refine mv rfl ?_
  refine sc (sgT rfl fun hG => sp_move (od rfl)) ?_
  refine cg (sp_pickAnd (od rfl) fun hg => odw rfl hg) ?_
  refine mv rfl ?_
  refine sc (sgT rfl fun hG => sp_load ty34 (od rfl)) ?_
  refine sc (sgT rfl fun hG => sp_buildSlice [.const (.int .i64 (0)), .const (.int .i64 (2))] ([0, 2] : List Int) sl39 ze3 rfl rfl rfl rfl ⟨odi, odi, trivial⟩) ?_
  refine sc (sgT rfl fun hG => sp_move (od rfl)) ?_
  refine sc (sgT rfl fun hG => sp_call en21 (f21_ok (guard_some e_40 hG)) ⟨odw rfl hG, odi, odw rfl hG, odw rfl hG, trivial⟩) ?_
  refine sc (sgT rfl fun hG => sp_eql (odw rfl hG) (odi)) ?_
  refine cg (sp_pickAnd (od rfl) fun hg => odw rfl hg) ?_
  refine mv rfl ?_
  refine sc (sgT rfl fun hG => sp_load ty34 (od rfl)) ?_
  refine sc (sgT rfl fun hG => sp_buildSlice [.const (.int .i64 (0)), .const (.int .i64 (2))] ([0, 2] : List Int) sl39 ze3 rfl rfl rfl rfl ⟨odi, odi, trivial⟩) ?_
  refine sc (sgT rfl fun hG => sp_buildSlice [.const (.int .i64 (149)), .const (.int .i64 (150))] ([149, 150] : List Int) sl39 ze3 rfl rfl rfl rfl ⟨odi, odi, trivial⟩) ?_
  refine sc (sgT rfl fun hG => sp_call en21 (f21_ok (guard_some e_42 hG)) ⟨odw rfl hG, odi, odw rfl hG, odw rfl hG, trivial⟩) ?_
  refine sc (sgT rfl fun hG => sp_eql (odw rfl hG) (odi)) ?_
  refine cg (sp_pickAnd (od rfl) fun hg => odw rfl hg) ?_
  refine mv rfl ?_
  refine sc (sgT rfl fun hG => sp_move (od rfl)) ?_
  refine sc (sgT rfl fun hG => sp_eql (odw rfl hG) (odi)) ?_
  refine cg (sp_pickAnd (od rfl) fun hg => odw rfl hg) ?_
  refine mv rfl ?_
  refine sc (sgT rfl fun hG => sp_move (od rfl)) ?_
  refine sc (sgT rfl fun hG => sp_eql (odw rfl hG) (odi)) ?_
  refine cg (sp_pickAnd (od rfl) fun hg => odw rfl hg) ?_
  refine mv rfl ?_
  refine sc (sgT rfl fun hG => sp_move (od rfl)) ?_
  refine sc (sgT rfl fun hG => sp_eql (odw rfl hG) (odi)) ?_
  refine cg (sp_pickAnd (od rfl) fun hg => odw rfl hg) ?_
  refine mv rfl ?_
  refine sc (sgT rfl fun hG => sp_move (od rfl)) ?_
  refine sc (sgT rfl fun hG => sp_eqlStr (odw rfl hG) (ods)) ?_
  refine cg (sp_pickAnd (od rfl) fun hg => odw rfl hg) ?_
  refine mv rfl ?_
  refine sc (sgT rfl fun hG => sp_load ty34 (od rfl)) ?_
  refine sc (sgT rfl fun hG => sp_buildSlice [.const (.int .i64 (0)), .const (.int .i64 (2))] ([0, 2] : List Int) sl39 ze3 rfl rfl rfl rfl ⟨odi, odi, trivial⟩) ?_
  refine sc (sgT rfl fun hG => sp_call en22 (f22_ok (guard_some e_44 hG)) ⟨odw rfl hG, odi, odw rfl hG, trivial⟩) ?_
  refine sc (sgT rfl fun hG => sp_eql (odw rfl hG) (odi)) ?_
  refine cg (sp_pickAnd (od rfl) fun hg => odw rfl hg) ?_
  refine mv rfl ?_
  refine sc (sgT rfl fun hG => sp_call en9 (f9_ok (guard_some e_46 hG)) ⟨odi, trivial⟩) ?_
  refine sc (sgT rfl fun hG => sp_buildSlice [.const (.int .i64 (0))] ([0] : List Int) sl39 ze3 rfl rfl rfl rfl ⟨odi, trivial⟩) ?_
  refine sc (sgT rfl fun hG => sp_call en23 (f23_ok (guard_some e_48 hG)) ⟨odw rfl hG, odi, odw rfl hG, trivial⟩) ?_
  refine sc (sgT rfl fun hG => sp_eql (odw rfl hG) (odi)) ?_
  refine cg (sp_pickAnd (od rfl) fun hg => odw rfl hg) ?_
  refine mv rfl ?_
  refine sc (sgT rfl fun hG => sp_load ty34 (od rfl)) ?_
  refine sc (sgT rfl fun hG => sp_move (od rfl)) ?_
  refine sc (sgT rfl fun hG => sp_call en24 (f24_ok (guard_some e_50 hG)) ⟨odw rfl hG, odi, odi, odw rfl hG, trivial⟩) ?_
  refine sc (sgT rfl fun hG => sp_eql (odw rfl hG) (odi)) ?_
  refine cg (sp_pickAnd (od rfl) fun hg => odw rfl hg) ?_
  refine mv rfl ?_
  refine sc (sgT rfl fun hG => sp_load ty34 (od rfl)) ?_
  refine sc (sgT rfl fun hG => sp_move (od rfl)) ?_
  refine sc (sgT rfl fun hG => sp_call en24 (f24_ok (guard_some e_52 hG)) ⟨odw rfl hG, odi, odi, odw rfl hG, trivial⟩) ?_
  refine sc (sgT rfl fun hG => sp_eql (odw rfl hG) (odi)) ?_
  refine cg (sp_pickAnd (od rfl) fun hg => odw rfl hg) ?_
  refine mv rfl ?_
  refine sc (sgT rfl fun hG => bd34_ ) ?_
  refine sc (sgT rfl fun hG => sp_call en25 (f25_ok (guard_some e_54 hG)) ⟨odw rfl hG, trivial⟩) ?_
  refine sc (sgT rfl fun hG => sp_eql (odw rfl hG) (odi)) ?_
  refine cg (sp_pickAnd (od rfl) fun hg => odw rfl hg) ?_
  refine cg (sp_assign (od rfl)) ?_
  refine sn fun a w hS => ?_
  refine et ?_
  refine wp_ret ?_
  cases h
  exact st_ret hS (run_results1 Tryz.results4 a w) (hS.get rfl)

end Go.Proofs.YtnnhmgcigoiceaaGreatDoor
