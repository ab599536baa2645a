/-
  What is proved: each Go function named here returns what its model tells, and changes nothing that was there; where the model tells something.
-/
import Derived.Test.YthogdhepjcomjaaGreatDoorWalkE
import Derived.Test.YthogdhepjcomjaaGreatDoorModelH
set_option linter.unusedVariables false
set_option maxRecDepth 100000
namespace Go.Proofs.YthogdhepjcomjaaGreatDoor
open Go Go.RowKit Go.Proofs.YthogdhepjcomjaaGreatDoor.Wh

theorem f136_ok {p0 : S_api_Roster} {p1 : Int} {r : Bool} (h : M.f136 p0 p1 = some r) : CallOK Tryz.prog 136 [isV p0, isV p1] (isV r) := by
  unfold M.f136 at h
  refine callS_of Tryz.func136 rfl Tryz.ntmps136 rfl fun F0 w0 a hS => ?_
  refine ws ?_
  refine st_reg mixed (by kernel_rfl) hS ?_
  refine cg (sp_box (od rfl)) ?_
  refine cg (sp_assign (odb)) ?_
  refine sn fun a w hS => ?_
  refine et ?_
  refine ws ?_
  refine st_reg mixed (by kernel_rfl) hS ?_
  refine mv rfl ?_
  refine cg (sp_geq (od rfl) (odi)) ?_
  refine mv rfl ?_
  refine sc (sgT rfl fun hG => sp_move (od rfl)) ?_
  refine sc (sgT rfl fun hG => sp_fieldAddr fd25_0 (od rfl)) ?_
  refine sc (sgT rfl fun hG => sp_load ty3 (odw rfl hG)) ?_
  refine sc (sgT rfl fun hG => sp_lss (odw rfl hG) (odw rfl hG)) ?_
  refine cg (sp_pickAnd (od rfl) fun hg => odw rfl hg) ?_
  refine cg (sp_assign (od rfl)) ?_
  refine sn fun a w hS => ?_
  refine et ?_
  refine wp_ret ?_
  cases h
  exact st_ret hS (run_results1 Tryz.results136 a w) (hS.get rfl)

theorem f75_ok {fuel : Nat} {p0 : S_api_Roster} {p1 : Int} {r : Int} (h : M.f75 fuel p0 p1 = some r) : CallOK Tryz.prog 75 [isV p0, isV p1] (isV r) := by
  unfold M.f75 at h
  refine callS_of Tryz.func75 rfl Tryz.ntmps75 rfl fun F0 w0 a hS => ?_
  refine ws ?_
  refine st_reg mixed (by kernel_rfl) hS ?_
  refine cg (sp_box (od rfl)) ?_
  refine cg (sp_assign (odi)) ?_
  refine sn fun a w hS => ?_
  refine et ?_
  refine ws ?_
  refine ws ?_
  obtain ⟨v_1, e_2, h⟩ := bind_some h
  refine st_reg mixed (by kernel_rfl) hS ?_
  refine cg (sp_load ty25 (od rfl)) ?_
  refine cg (sp_call en33 (f33_ok e_2) ⟨od rfl, trivial⟩) ?_
  refine cg (sp_not (od rfl)) ?_
  refine sn fun a w hS => ?_
  refine et ?_
  refine st_cond hS rfl (fun hb => ?_) (fun hb => ?_)
  · have h := ite_t hb h
    refine ws ?_
    refine st_reg mixed (by kernel_rfl) hS ?_
    refine cg (sp_assign (odi)) ?_
    refine sn fun a w hS => ?_
    refine et ?_
    refine wp_ret ?_
    refine exit_thenR ?_
    cases h
    exact st_ret hS (run_results1 Tryz.results75 a w) (hS.get rfl)
  have h := ite_f hb h
  refine wp_skip ?_
  refine et ?_
  refine ws ?_
  refine ws ?_
  obtain ⟨v_3, e_4, h⟩ := bind_some h
  refine st_reg mixed (by kernel_rfl) hS ?_
  refine cg (sp_load ty25 (od rfl)) ?_
  refine mv rfl ?_
  refine cg (sp_call en136 (f136_ok e_4) ⟨od rfl, od rfl, trivial⟩) ?_
  refine cg (sp_not (od rfl)) ?_
  refine sn fun a w hS => ?_
  refine et ?_
  refine st_cond hS rfl (fun hb => ?_) (fun hb => ?_)
  · have h := ite_t hb h
    refine ws ?_
    refine st_reg mixed (by kernel_rfl) hS ?_
    refine cg (sp_assign (odi)) ?_
    refine sn fun a w hS => ?_
    refine et ?_
    refine wp_ret ?_
    refine exit_thenR ?_
    cases h
    exact st_ret hS (run_results1 Tryz.results75 a w) (hS.get rfl)
  have h := ite_f hb h
  refine wp_skip ?_
  refine et ?_
  refine ws ?_
  refine st_reg mixed (by kernel_rfl) hS ?_
  refine cg (sp_assign (odi)) ?_
  refine sn fun a w hS => ?_
  refine et ?_
  refine wp_ret ?_
  cases h
  exact st_ret hS (run_results1 Tryz.results75 a w) (hS.get rfl)

theorem f129_ok {fuel : Nat} {p0 : S_api_Roster} {p1 : Int} {p2 : List Int} {r : Bool} (h : M.f129 fuel p0 p1 p2 = some r) : CallOK Tryz.prog 129 [isV p0, isV p1, isV p2] (isV r) := by
  unfold M.f129 at h
  refine callS_of Tryz.func129 rfl Tryz.ntmps129 rfl fun F0 w0 a hS => ?_
  refine ws ?_
  refine st_reg mixed (by kernel_rfl) hS ?_
  refine cg (sp_box (od rfl)) ?_
  refine cg (sp_assign (odb)) ?_
  refine sn fun a w hS => ?_
  refine et ?_
  refine ws ?_
  refine st_reg mixed (by kernel_rfl) hS ?_
  refine mv rfl ?_
  refine cg (sp_len Tryz.underlying26 (od rfl)) ?_
  refine cg (sp_assign (od rfl)) ?_
  refine sn fun a w hS => ?_
  refine et ?_
  refine ws ?_
  refine ws ?_
  obtain ⟨v_1, e_2, h⟩ := bind_some h
  obtain ⟨v_3, e_4, h⟩ := bind_some h
  obtain ⟨v_5, e_6, h⟩ := bind_some h
  obtain ⟨v_7, e_8, h⟩ := bind_some h
  obtain ⟨v_9, e_10, h⟩ := bind_some h
  refine st_reg mixed (by kernel_rfl) hS ?_
  refine mv rfl ?_
  refine cg (sp_eql (od rfl) (odi)) ?_
  refine mv rfl ?_
  refine sc (sgF rfl fun hG => sp_load ty25 (od rfl)) ?_
  refine sc (sgF rfl fun hG => sp_move (od rfl)) ?_
  refine sc (sgF rfl fun hG => sp_move (od rfl)) ?_
  refine sc (sgF rfl fun hG => sp_call en96 (f96_ok (guard_some e_2 hG)) ⟨odw rfl hG, odw rfl hG, odw rfl hG, trivial⟩) ?_
  refine sc (sgF rfl fun hG => sp_not (odw rfl hG)) ?_
  refine cg (sp_pickOr (od rfl) fun hg => odw rfl (not_t hg)) ?_
  refine mv rfl ?_
  refine sc (sgF rfl fun hG => sp_load ty25 (od rfl)) ?_
  refine sc (sgF rfl fun hG => sp_move (od rfl)) ?_
  refine sc (sgF rfl fun hG => sp_indexAddr sl26 (odw rfl hG) (odi) (guard_some e_4 hG)) ?_
  refine sc (sgF rfl fun hG => sp_load ty3 (odw rfl hG)) ?_
  refine sc (sgF rfl fun hG => sp_call en83 (f83_ok (guard_some e_6 hG)) ⟨odw rfl hG, odw rfl hG, trivial⟩) ?_
  refine sc (sgF rfl fun hG => sp_not (odw rfl hG)) ?_
  refine cg (sp_pickOr (od rfl) fun hg => odw rfl (not_t hg)) ?_
  refine mv rfl ?_
  refine sc (sgF rfl fun hG => sp_load ty25 (od rfl)) ?_
  refine sc (sgF rfl fun hG => sp_move (od rfl)) ?_
  refine sc (sgF rfl fun hG => sp_move (od rfl)) ?_
  refine sc (sgF rfl fun hG => sp_sub (odw rfl hG) (odi)) ?_
  refine sc (sgF rfl fun hG => sp_indexAddr sl26 (odw rfl hG) (odw rfl hG) (guard_some e_8 hG)) ?_
  refine sc (sgF rfl fun hG => sp_load ty3 (odw rfl hG)) ?_
  refine sc (sgF rfl fun hG => sp_call en98 (f98_ok (guard_some e_10 hG)) ⟨odw rfl hG, odw rfl hG, trivial⟩) ?_
  refine sc (sgF rfl fun hG => sp_not (odw rfl hG)) ?_
  refine cg (sp_pickOr (od rfl) fun hg => odw rfl (not_t hg)) ?_
  refine sn fun a w hS => ?_
  refine et ?_
  refine st_cond hS rfl (fun hb => ?_) (fun hb => ?_)
  · have h := ite_t hb h
    refine ws ?_
    refine st_reg mixed (by kernel_rfl) hS ?_
    refine cg (sp_assign (odb)) ?_
    refine sn fun a w hS => ?_
    refine et ?_
    refine wp_ret ?_
    refine exit_thenR ?_
    cases h
    exact st_ret hS (run_results1 Tryz.results129 a w) (hS.get rfl)
  have h := ite_f hb h
  refine wp_skip ?_
  refine et ?_
  refine ws ?_
  refine ws ?_
  refine st_reg mixed (by kernel_rfl) hS ?_
  refine cg (sp_assign (odi)) ?_
  refine sn fun a w hS => ?_
  refine et ?_
  refine wp_block ?_
  obtain ⟨o_12, e_13, hr_14⟩ := bind_some h
  refine c_loop (fun K a w => ∃ s_11 : Int, loopM _ K s_11 = some o_12 ∧ St 55 F0 [] [(2, isV (α := List Int) p2), (3, isA (α := S_api_Roster) p0), (7, isV (α := Int) (p2.length : Int)), (8, isV (α := Int) s_11)] w0 a w) ?_ ?_ ⟨_, e_13, hS.weak ⟨od rfl, od rfl, od rfl, od rfl, trivial⟩⟩
  · rintro a w ⟨_, hk, _⟩; cases hk
  rintro K a w ⟨s_11, hF_12, hS⟩
  obtain ⟨o, h, hN_12, hL_12⟩ := loop_more hF_12
  refine ws ?_
  refine ws ?_
  refine st_reg mixed (by kernel_rfl) hS ?_
  refine mv rfl ?_
  refine mv rfl ?_
  refine cg (sp_lss (od rfl) (od rfl)) ?_
  refine sn fun a w hS => ?_
  refine et ?_
  refine st_cond hS rfl (fun hb => ?_) (fun hb => ?_)
  · have h := ite_t hb h
    refine wp_skip ?_
    refine et ?_
    refine ws ?_
    refine wp_block ?_
    refine ws ?_
    obtain ⟨v_15, e_16, h⟩ := bind_some h
    obtain ⟨v_17, e_18, h⟩ := bind_some h
    obtain ⟨v_19, e_20, h⟩ := bind_some h
    refine st_reg mixed (by kernel_rfl) hS ?_
    refine cg (sp_load ty25 (od rfl)) ?_
    refine mv rfl ?_
    refine mv rfl ?_
    refine cg (sp_sub (od rfl) (odi)) ?_
    refine cg (sp_indexAddr sl26 (od rfl) (od rfl) e_16) ?_
    refine cg (sp_load ty3 (od rfl)) ?_
    refine mv rfl ?_
    refine mv rfl ?_
    refine cg (sp_indexAddr sl26 (od rfl) (od rfl) e_18) ?_
    refine cg (sp_load ty3 (od rfl)) ?_
    refine cg (sp_call en84 (f84_ok e_20) ⟨od rfl, od rfl, od rfl, trivial⟩) ?_
    refine cg (sp_not (od rfl)) ?_
    refine sn fun a w hS => ?_
    refine et ?_
    refine st_cond hS rfl (fun hb => ?_) (fun hb => ?_)
    · have h := ite_t hb h
      refine ws ?_
      refine st_reg mixed (by kernel_rfl) hS ?_
      refine cg (sp_assign (odb)) ?_
      refine sn fun a w hS => ?_
      refine et ?_
      refine wp_ret ?_
      refine exit_blockR ?_
      refine exit_thenR ?_
      cases h
      obtain rfl := hL_12 _ rfl
      have h := (sum_inr hr_14)
      refine exit_thenR ?_
      refine exit_blockR ?_
      refine exit_thenR ?_
      cases h
      exact st_ret hS (run_results1 Tryz.results129 a w) (hS.get rfl)
    have h := ite_f hb h
    refine wp_skip ?_
    refine exit_block ?_
    refine et ?_
    refine st_reg mixed (by kernel_rfl) hS ?_
    refine mv rfl ?_
    refine cg (sp_add (od rfl) (odi)) ?_
    refine cg (sp_assign (od rfl)) ?_
    refine sn fun a w hS => ?_
    cases h
    exact ⟨_, hN_12 _ rfl, hS.weak ⟨od rfl, od rfl, od rfl, od rfl, trivial⟩⟩
  have h := ite_f hb h
  refine wp_exit ?_
  refine exit_thenE ?_
  cases h
  obtain rfl := hL_12 _ rfl
  have h := (sum_inl hr_14)
  refine exit_thenE ?_
  refine exit_here ?_
  refine et ?_
  refine ws ?_
  refine st_reg mixed (by kernel_rfl) hS ?_
  refine cg (sp_assign (odb)) ?_
  refine sn fun a w hS => ?_
  refine et ?_
  refine wp_ret ?_
  cases h
  exact st_ret hS (run_results1 Tryz.results129 a w) (hS.get rfl)

theorem f139_ok {p0 : S_api_Turn} {p1 : Bool} {r : Int} (h : M.f139 p0 p1 = some r) : CallOK Tryz.prog 139 [isV p0, isV p1] (isV r) := by
  unfold M.f139 at h
  refine callS_of Tryz.func139 rfl Tryz.ntmps139 rfl fun F0 w0 a hS => ?_
  refine ws ?_
  refine st_reg mixed (by kernel_rfl) hS ?_
  refine cg (sp_box (od rfl)) ?_
  refine cg (sp_assign (odi)) ?_
  refine sn fun a w hS => ?_
  refine et ?_
  refine ws ?_
  refine ws ?_
  refine st_reg mixed (by kernel_rfl) hS ?_
  refine mv rfl ?_
  refine sn fun a w hS => ?_
  refine et ?_
  refine st_cond hS rfl (fun hb => ?_) (fun hb => ?_)
  · have h := ite_t hb h
    refine ws ?_
    refine st_reg mixed (by kernel_rfl) hS ?_
    refine cg (sp_fieldAddr fd45_5 (od rfl)) ?_
    refine cg (sp_load ty3 (od rfl)) ?_
    refine cg (sp_add (odi) (od rfl)) ?_
    refine cg (sp_assign (od rfl)) ?_
    refine sn fun a w hS => ?_
    refine et ?_
    refine wp_ret ?_
    refine exit_thenR ?_
    cases h
    exact st_ret hS (run_results1 Tryz.results139 a w) (hS.get rfl)
  have h := ite_f hb h
  refine wp_skip ?_
  refine et ?_
  refine ws ?_
  refine st_reg mixed (by kernel_rfl) hS ?_
  refine cg (sp_fieldAddr fd45_5 (od rfl)) ?_
  refine cg (sp_load ty3 (od rfl)) ?_
  refine cg (sp_mul (odi) (od rfl)) ?_
  refine cg (sp_add (od rfl) (odi)) ?_
  refine cg (sp_assign (od rfl)) ?_
  refine sn fun a w hS => ?_
  refine et ?_
  refine wp_ret ?_
  cases h
  exact st_ret hS (run_results1 Tryz.results139 a w) (hS.get rfl)

theorem f138_ok {fuel : Nat} {p0 : S_api_Roster} {p1 : Int} {p2 : Bool} {r : (List Int)} (h : M.f138 fuel p0 p1 p2 = some r) : CallOK Tryz.prog 138 [isV p0, isV p1, isV p2] (isV r) := by
  unfold M.f138 at h
  refine callS_of Tryz.func138 rfl Tryz.ntmps138 rfl fun F0 w0 a hS => ?_
  refine ws ?_
  refine st_reg mixed (by kernel_rfl) hS ?_
  refine cg (sp_box (od rfl)) ?_
  refine cg (sp_assign (odnil (α := Int))) ?_
  refine sn fun a w hS => ?_
  refine et ?_
  refine ws ?_
  refine st_reg mixed (by kernel_rfl) hS ?_
  refine cg (sp_assign (φ := Pr.is (.slice none 0 0)) (odc fun _ => rfl)) ?_
  refine sn fun a w hS => ?_
  have hS := st_nil (α := Int) 3 hS
  have hS : St _ F0 [Item.sl (α := Int) 3 (.slice none 0 0) ([] : List Int)] _ w0 _ _ := hS
  refine et ?_
  refine ws ?_
  refine ws ?_
  refine st_reg mixed (by kernel_rfl) hS ?_
  refine cg (sp_assign (odi)) ?_
  refine sn fun a w hS => ?_
  refine et ?_
  refine wp_block ?_
  obtain ⟨o_2, e_3, hr_4⟩ := bind_some h
  refine c_loop (fun K a w => ∃ s_1 : Int × (List Int), ∃ u_5 : Value, loopM _ K s_1 = some o_2 ∧ St 108 F0 [Item.sl (α := Int) 3 u_5 s_1.2] [(1, isV (α := Int) p1), (2, isV (α := Bool) p2), (3, isA (α := S_api_Roster) p0), (7, Pr.is u_5), (8, isV (α := Int) s_1.1)] w0 a w) ?_ ?_ ⟨_, (.slice none 0 0), e_3, hS.weak ⟨od rfl, od rfl, od rfl, od rfl, od rfl, trivial⟩⟩
  · rintro a w ⟨_, _, hk, _⟩; cases hk
  rintro K a w ⟨s_1, u_5, hF_2, hS⟩
  obtain ⟨o, h, hN_2, hL_2⟩ := loop_more hF_2
  refine ws ?_
  refine ws ?_
  refine st_reg mixed (by kernel_rfl) hS ?_
  refine mv rfl ?_
  refine cg (sp_fieldAddr fd25_4 (od rfl)) ?_
  refine cg (sp_load ty23 (od rfl)) ?_
  refine cg (sp_len Tryz.underlying23 (od rfl)) ?_
  refine cg (sp_lss (od rfl) (od rfl)) ?_
  refine sn fun a w hS => ?_
  refine et ?_
  refine st_cond hS rfl (fun hb => ?_) (fun hb => ?_)
  · have h := ite_t hb h
    refine wp_skip ?_
    refine et ?_
    refine ws ?_
    refine wp_block ?_
    refine ws ?_
    obtain ⟨v_6, e_7, h⟩ := bind_some h
    obtain ⟨v_8, e_9, h⟩ := bind_some h
    refine st_reg mixed (by kernel_rfl) hS ?_
    refine cg (sp_fieldAddr fd25_4 (od rfl)) ?_
    refine cg (sp_load ty23 (od rfl)) ?_
    refine mv rfl ?_
    refine cg (sp_indexAddr sl23 (od rfl) (od rfl) e_7) ?_
    refine cg (sp_fieldAddr fd45_0 (od rfl)) ?_
    refine cg (sp_load ty3 (od rfl)) ?_
    refine mv rfl ?_
    refine cg (sp_eql (od rfl) (od rfl)) ?_
    refine mv rfl ?_
    refine sc (sgT rfl fun hG => sp_load ty25 (od rfl)) ?_
    refine sc (sgT rfl fun hG => sp_move (od rfl)) ?_
    refine sc (sgT rfl fun hG => sp_call en98 (f98_ok (guard_some e_9 hG)) ⟨odw rfl hG, odw rfl hG, trivial⟩) ?_
    refine cg (sp_pickAnd (od rfl) fun hg => odw rfl hg) ?_
    refine sn fun a w hS => ?_
    refine et ?_
    obtain ⟨y_11, hj_10, h⟩ := bind_some h
    refine wp_mono (Q := fun e a w => e = Exit.normal ∧ ∃ u_12 : Value, St 108 F0 [Item.sl (α := Int) 3 u_12 y_11] [(1, isV (α := Int) p1), (2, isV (α := Bool) p2), (3, isA (α := S_api_Roster) p0), (7, Pr.is u_12), (8, isV (α := Int) s_1.1)] w0 a w) ?_ ?_
    · refine st_cond hS rfl (fun hb => ?_) (fun hb => ?_)
      · have h := ite_t hb hj_10
        obtain ⟨v_13, e_14, h⟩ := bind_some h
        obtain ⟨v_15, e_16, h⟩ := bind_some h
        obtain ⟨z_17, e_18, h⟩ := bind_some h
        refine l_start ?_
        refine s_c hS (sg (sp_move (od rfl))) rfl fun a w hS hM => ?_
        refine s_c hS (sg (sp_fieldAddr fd25_4 (od rfl))) rfl fun a w hS hM => ?_
        refine s_c hS (sg (sp_load ty23 (od rfl))) rfl fun a w hS hM => ?_
        refine s_c hS (sg (sp_move (od rfl))) rfl fun a w hS hM => ?_
        refine s_c hS (sg (sp_indexAddr sl23 (od rfl) (od rfl) e_14)) rfl fun a w hS hM => ?_
        refine s_c hS (sg (sp_load ty45 (od rfl))) rfl fun a w hS hM => ?_
        refine s_c hS (sg (sp_move (od rfl))) rfl fun a w hS hM => ?_
        refine s_c hS (sg (sp_call en139 (f139_ok e_16) ⟨od rfl, od rfl, trivial⟩)) rfl fun a w hS hM => ?_
        refine s_c hS (sg (sp_buildSlice [.tmp 39] ([v_15] : List Int) sl26 ze3 rfl rfl rfl rfl ⟨od rfl, trivial⟩)) rfl fun a w hS hM => ?_
        refine s_append (k := 0) (Δ := [(1, isV (α := Int) p1), (2, isV (α := Bool) p2), (3, isA (α := S_api_Roster) p0), (8, isV (α := Int) s_1.1), (32, Pr.is u_5), (40, isV (α := List Int) ([v_15] : List Int))]) sl26 ze3 hS rfl ⟨od rfl, od rfl, od rfl, od rfl, od rfl, od rfl, trivial⟩ ⟨fun _ _ _ _ h => h, fun _ _ _ _ h => h, fun _ _ _ _ h => h, fun _ _ _ _ h => h, fun _ _ _ _ h => h, fun _ _ _ _ h => h, trivial⟩ (od rfl) (od rfl) e_18 rfl fun a w u_19 hS hM => ?_
        have hS : St _ F0 [Item.sl (α := Int) 3 u_19 z_17] _ w0 _ _ := hS
        refine s_c hS (sg (sp_assign (od rfl))) rfl fun a w hS hM => ?_
        refine l_end ?_
        cases h
        exact ⟨rfl, u_19, hS.weak ⟨od rfl, od rfl, od rfl, od rfl, od rfl, trivial⟩⟩
      have h := ite_f hb hj_10
      obtain ⟨z_20, e_21, h⟩ := bind_some h
      refine l_start ?_
      refine s_c hS (sg (sp_move (od rfl))) rfl fun a w hS hM => ?_
      refine s_c hS (sg (sp_buildSlice [.const (.int .i64 (1099511627776))] ([1099511627776] : List Int) sl26 ze3 rfl rfl rfl rfl ⟨odi, trivial⟩)) rfl fun a w hS hM => ?_
      refine s_append (k := 0) (Δ := [(1, isV (α := Int) p1), (2, isV (α := Bool) p2), (3, isA (α := S_api_Roster) p0), (8, isV (α := Int) s_1.1), (42, Pr.is u_5), (43, isV (α := List Int) ([1099511627776] : List Int))]) sl26 ze3 hS rfl ⟨od rfl, od rfl, od rfl, od rfl, od rfl, od rfl, trivial⟩ ⟨fun _ _ _ _ h => h, fun _ _ _ _ h => h, fun _ _ _ _ h => h, fun _ _ _ _ h => h, fun _ _ _ _ h => h, fun _ _ _ _ h => h, trivial⟩ (od rfl) (od rfl) e_21 rfl fun a w u_22 hS hM => ?_
      have hS : St _ F0 [Item.sl (α := Int) 3 u_22 z_20] _ w0 _ _ := hS
      refine s_c hS (sg (sp_assign (od rfl))) rfl fun a w hS hM => ?_
      refine l_end ?_
      cases h
      exact ⟨rfl, u_22, hS.weak ⟨od rfl, od rfl, od rfl, od rfl, od rfl, trivial⟩⟩
    rintro e a w ⟨rfl, u_12, hS⟩
    refine exit_block ?_
    refine et ?_
    refine st_reg mixed (by kernel_rfl) hS ?_
    refine mv rfl ?_
    refine cg (sp_add (od rfl) (odi)) ?_
    refine cg (sp_assign (od rfl)) ?_
    refine sn fun a w hS => ?_
    cases h
    exact ⟨_, u_12, hN_2 _ rfl, hS.weak ⟨od rfl, od rfl, od rfl, od rfl, od rfl, trivial⟩⟩
  have h := ite_f hb h
  refine wp_exit ?_
  refine exit_thenE ?_
  cases h
  obtain rfl := hL_2 _ rfl
  have h := hr_4
  refine exit_thenE ?_
  refine exit_here ?_
  refine et ?_
  refine ws ?_
  refine ws ?_
  refine st_reg mixed (by kernel_rfl) hS ?_
  refine cg (sp_assign (odi)) ?_
  refine sn fun a w hS => ?_
  refine et ?_
  refine wp_block ?_
  obtain ⟨o_24, e_25, hr_26⟩ := bind_some h
  refine c_loop (fun K a w => ∃ s_23 : Int × (List Int), loopM _ K s_23 = some o_24 ∧ St 108 F0 [Item.sl (α := Int) 3 u_5 s_23.2] [(1, isV (α := Int) p1), (2, isV (α := Bool) p2), (3, isA (α := S_api_Roster) p0), (7, Pr.is u_5), (9, isV (α := Int) s_23.1)] w0 a w) ?_ ?_ ⟨_, e_25, hS.weak ⟨od rfl, od rfl, od rfl, od rfl, od rfl, trivial⟩⟩
  · rintro a w ⟨_, hk, _⟩; cases hk
  rintro K a w ⟨s_23, hF_24, hS⟩
  obtain ⟨o, h, hN_24, hL_24⟩ := loop_more hF_24
  refine ws ?_
  refine ws ?_
  refine st_reg mixed (by kernel_rfl) hS ?_
  refine mv rfl ?_
  refine cg (sp_fieldAddr fd25_4 (od rfl)) ?_
  refine cg (sp_load ty23 (od rfl)) ?_
  refine cg (sp_len Tryz.underlying23 (od rfl)) ?_
  refine cg (sp_lss (od rfl) (od rfl)) ?_
  refine sn fun a w hS => ?_
  refine et ?_
  refine st_cond hS rfl (fun hb => ?_) (fun hb => ?_)
  · have h := ite_t hb h
    refine wp_skip ?_
    refine et ?_
    refine ws ?_
    refine wp_block ?_
    refine ws ?_
    refine st_reg mixed (by kernel_rfl) hS ?_
    refine cg (sp_assign (odi)) ?_
    refine sn fun a w hS => ?_
    refine et ?_
    refine wp_block ?_
    obtain ⟨o_28, e_29, hr_30⟩ := bind_some h
    refine c_loop (fun K a w => ∃ s_27 : Int × (List Int), loopM _ K s_27 = some o_28 ∧ St 108 F0 [Item.sl (α := Int) 3 u_5 s_27.2] [(1, isV (α := Int) p1), (2, isV (α := Bool) p2), (3, isA (α := S_api_Roster) p0), (7, Pr.is u_5), (9, isV (α := Int) s_23.1), (10, isV (α := Int) s_27.1)] w0 a w) ?_ ?_ ⟨_, e_29, hS.weak ⟨od rfl, od rfl, od rfl, od rfl, od rfl, od rfl, trivial⟩⟩
    · rintro a w ⟨_, hk, _⟩; cases hk
    rintro K a w ⟨s_27, hF_28, hS⟩
    obtain ⟨o, h, hN_28, hL_28⟩ := loop_more hF_28
    refine ws ?_
    refine ws ?_
    refine st_reg mixed (by kernel_rfl) hS ?_
    refine mv rfl ?_
    refine cg (sp_fieldAddr fd25_4 (od rfl)) ?_
    refine cg (sp_load ty23 (od rfl)) ?_
    refine cg (sp_len Tryz.underlying23 (od rfl)) ?_
    refine cg (sp_lss (od rfl) (od rfl)) ?_
    refine sn fun a w hS => ?_
    refine et ?_
    refine st_cond hS rfl (fun hb => ?_) (fun hb => ?_)
    · have h := ite_t hb h
      refine wp_skip ?_
      refine et ?_
      refine ws ?_
      refine wp_block ?_
      refine ws ?_
      refine st_reg mixed (by kernel_rfl) hS ?_
      refine cg (sp_assign (odi)) ?_
      refine sn fun a w hS => ?_
      refine et ?_
      refine wp_block ?_
      obtain ⟨o_32, e_33, hr_34⟩ := bind_some h
      refine c_loop (fun K a w => ∃ s_31 : Int × (List Int), loopM _ K s_31 = some o_32 ∧ St 108 F0 [Item.sl (α := Int) 3 u_5 s_31.2] [(1, isV (α := Int) p1), (2, isV (α := Bool) p2), (3, isA (α := S_api_Roster) p0), (7, Pr.is u_5), (9, isV (α := Int) s_23.1), (10, isV (α := Int) s_27.1), (11, isV (α := Int) s_31.1)] w0 a w) ?_ ?_ ⟨_, e_33, hS.weak ⟨od rfl, od rfl, od rfl, od rfl, od rfl, od rfl, od rfl, trivial⟩⟩
      · rintro a w ⟨_, hk, _⟩; cases hk
      rintro K a w ⟨s_31, hF_32, hS⟩
      obtain ⟨o, h, hN_32, hL_32⟩ := loop_more hF_32
      refine ws ?_
      refine ws ?_
      refine st_reg mixed (by kernel_rfl) hS ?_
      refine mv rfl ?_
      refine cg (sp_fieldAddr fd25_4 (od rfl)) ?_
      refine cg (sp_load ty23 (od rfl)) ?_
      refine cg (sp_len Tryz.underlying23 (od rfl)) ?_
      refine cg (sp_lss (od rfl) (od rfl)) ?_
      refine sn fun a w hS => ?_
      refine et ?_
      refine st_cond hS rfl (fun hb => ?_) (fun hb => ?_)
      · have h := ite_t hb h
        refine wp_skip ?_
        refine et ?_
        refine ws ?_
        refine wp_block ?_
        refine ws ?_
        have hS := st_os 0 7 hS rfl rfl
        obtain ⟨v_35, e_36, h⟩ := bind_some h
        obtain ⟨v_37, e_38, h⟩ := bind_some h
        obtain ⟨v_39, e_40, h⟩ := bind_some h
        refine st_reg mixed (by kernel_rfl) hS ?_
        refine cg (sp_fieldAddr fd25_4 (od rfl)) ?_
        refine cg (sp_load ty23 (od rfl)) ?_
        refine mv rfl ?_
        refine cg (sp_indexAddr sl23 (od rfl) (od rfl) e_36) ?_
        refine cg (sp_fieldAddr fd45_0 (od rfl)) ?_
        refine cg (sp_load ty3 (od rfl)) ?_
        refine mv rfl ?_
        refine cg (sp_eql (od rfl) (od rfl)) ?_
        refine mv rfl ?_
        refine sc (sgT rfl fun hG => sp_load ty25 (od rfl)) ?_
        refine sc (sgT rfl fun hG => sp_move (od rfl)) ?_
        refine sc (sgT rfl fun hG => sp_move (od rfl)) ?_
        refine sc (sgT rfl fun hG => sp_call en84 (f84_ok (guard_some e_38 hG)) ⟨odw rfl hG, odw rfl hG, odw rfl hG, trivial⟩) ?_
        refine cg (sp_pickAnd (od rfl) fun hg => odw rfl hg) ?_
        refine mv rfl ?_
        refine sc (sgT rfl fun hG => sp_move (od rfl)) ?_
        refine sc (sgT rfl fun hG => sp_move (od rfl)) ?_
        refine sc (sgT rfl fun hG => sp_indexAddrOS sl26 (odw rfl hG) (odw rfl hG) (guard_some e_40 hG)) ?_
        refine sc (sgT rfl fun hG => sp_loadEA ty3 (odw rfl hG)) ?_
        refine sc (sgT rfl fun hG => sp_lss (odw rfl hG) (odi)) ?_
        refine cg (sp_pickAnd (od rfl) fun hg => odw rfl hg) ?_
        refine sn fun a w hS => ?_
        refine et ?_
        obtain ⟨y_42, hj_41, h⟩ := bind_some h
        refine wp_mono (Q := fun e a w => e = Exit.normal ∧ St 108 F0 [Item.sl (α := Int) 3 u_5 y_42] [(1, isV (α := Int) p1), (2, isV (α := Bool) p2), (3, isA (α := S_api_Roster) p0), (7, Pr.is u_5), (9, isV (α := Int) s_23.1), (10, isV (α := Int) s_27.1), (11, isV (α := Int) s_31.1)] w0 a w) ?_ ?_
        · refine st_cond hS rfl (fun hb => ?_) (fun hb => ?_)
          · have h := ite_t hb hj_41
            obtain ⟨v_43, e_44, h⟩ := bind_some h
            obtain ⟨v_45, e_46, h⟩ := bind_some h
            obtain ⟨v_47, e_48, h⟩ := bind_some h
            obtain ⟨v_49, e_50, h⟩ := bind_some h
            obtain ⟨v_51, e_52, h⟩ := bind_some h
            obtain ⟨z_53, e_54, h⟩ := bind_some h
            refine st_float mixed [0, 0, 0, 0, 0, 0, 0, 0, 0, 0, 0, 0, 0, 0, 0, 0, 0, 0, 0, 0, 2] (by kernel_rfl) (by kernel_rfl) hS ?_
            refine sfA (sg (sp_move (od rfl))) ?_
            refine sfA (sg (sp_move (od rfl))) ?_
            refine sfA (sg (sp_move (od rfl))) ?_
            refine sfA (sg (sp_move (od rfl))) ?_
            refine sfA (sg (sp_indexAddrOS sl26 (od rfl) (od rfl) e_44)) ?_
            refine sfA (sg (sp_loadEA ty3 (od rfl))) ?_
            refine sfA (sg (sp_move (od rfl))) ?_
            refine sfA (sg (sp_move (od rfl))) ?_
            refine sfA (sg (sp_indexAddrOS sl26 (od rfl) (od rfl) e_46)) ?_
            refine sfA (sg (sp_loadEA ty3 (od rfl))) ?_
            refine sfA (sg (sp_fieldAddr fd25_4 (od rfl))) ?_
            refine sfA (sg (sp_load ty23 (od rfl))) ?_
            refine sfA (sg (sp_move (od rfl))) ?_
            refine sfA (sg (sp_indexAddr sl23 (od rfl) (od rfl) e_48)) ?_
            refine sfA (sg (sp_load ty45 (od rfl))) ?_
            refine sfA (sg (sp_move (od rfl))) ?_
            refine sfA (sg (sp_call en139 (f139_ok e_50) ⟨od rfl, od rfl, trivial⟩)) ?_
            refine sfA (sg (sp_add (od rfl) (od rfl))) ?_
            refine sfA (sg (sp_min (od rfl) (od rfl))) ?_
            refine sfA (sg (sp_indexAddrOS sl26 (od rfl) (od rfl) e_52)) ?_
            refine sfT ?_
            refine sfN fun c a w hS hC => ?_
            refine ls ?_
            refine s_storeEA (k := 0) (j := s_27.1) (Δ := [(1, isV (α := Int) p1), (2, isV (α := Bool) p2), (3, isA (α := S_api_Roster) p0), (7, Pr.is u_5), (9, isV (α := Int) s_23.1), (10, isV (α := Int) s_27.1), (11, isV (α := Int) s_31.1), (105, isV (α := Int) (imin v_43 (wr (v_45 + v_49)))), (106, isEP Int u_5 s_27.1.toNat)]) ty3 hS rfl ⟨od rfl, od rfl, od rfl, odOS rfl, od rfl, od rfl, od rfl, od rfl, odEP rfl, trivial⟩ ⟨fun _ _ _ _ h => h, fun _ _ _ _ h => h, fun _ _ _ _ h => h, fun _ _ _ _ h => h, fun _ _ _ _ h => h, fun _ _ _ _ h => h, fun _ _ _ _ h => h, fun _ _ _ _ h => h, fun _ _ _ _ h => h, trivial⟩ (odEP rfl) (od rfl) e_54 fun w hS hM => ?_
            have hS : St _ F0 [Item.sl (α := Int) 3 u_5 z_53] _ w0 _ _ := hS
            have hC := Mem.le_trans hC hM
            refine s_next hC ?_
            refine s_done ?_
            cases h
            exact ⟨rfl, hS.weak ⟨od rfl, od rfl, od rfl, od rfl, od rfl, od rfl, od rfl, trivial⟩⟩
          have h := ite_f hb hj_41
          refine wp_skip ?_
          cases h
          exact ⟨rfl, hS.weak ⟨od rfl, od rfl, od rfl, odOS rfl, od rfl, od rfl, od rfl, trivial⟩⟩
        rintro e a w ⟨rfl, hS⟩
        refine exit_block ?_
        refine et ?_
        refine st_reg mixed (by kernel_rfl) hS ?_
        refine mv rfl ?_
        refine cg (sp_add (od rfl) (odi)) ?_
        refine cg (sp_assign (od rfl)) ?_
        refine sn fun a w hS => ?_
        cases h
        exact ⟨_, hN_32 _ rfl, hS.weak ⟨od rfl, od rfl, od rfl, od rfl, od rfl, od rfl, od rfl, trivial⟩⟩
      have h := ite_f hb h
      refine wp_exit ?_
      refine exit_thenE ?_
      cases h
      obtain rfl := hL_32 _ rfl
      have h := hr_34
      refine exit_thenE ?_
      refine exit_here ?_
      refine exit_block ?_
      refine et ?_
      refine st_reg mixed (by kernel_rfl) hS ?_
      refine mv rfl ?_
      refine cg (sp_add (od rfl) (odi)) ?_
      refine cg (sp_assign (od rfl)) ?_
      refine sn fun a w hS => ?_
      cases h
      exact ⟨_, hN_28 _ rfl, hS.weak ⟨od rfl, od rfl, od rfl, od rfl, od rfl, od rfl, trivial⟩⟩
    have h := ite_f hb h
    refine wp_exit ?_
    refine exit_thenE ?_
    cases h
    obtain rfl := hL_28 _ rfl
    have h := hr_30
    refine exit_thenE ?_
    refine exit_here ?_
    refine exit_block ?_
    refine et ?_
    refine st_reg mixed (by kernel_rfl) hS ?_
    refine mv rfl ?_
    refine cg (sp_add (od rfl) (odi)) ?_
    refine cg (sp_assign (od rfl)) ?_
    refine sn fun a w hS => ?_
    cases h
    exact ⟨_, hN_24 _ rfl, hS.weak ⟨od rfl, od rfl, od rfl, od rfl, od rfl, trivial⟩⟩
  have h := ite_f hb h
  refine wp_exit ?_
  refine exit_thenE ?_
  cases h
  obtain rfl := hL_24 _ rfl
  have h := hr_26
  refine exit_thenE ?_
  refine exit_here ?_
  refine et ?_
  refine ws ?_
  refine st_reg mixed (by kernel_rfl) hS ?_
  refine mv rfl ?_
  refine cg (sp_assign (od rfl)) ?_
  refine sn fun a w hS => ?_
  refine et ?_
  refine wp_ret ?_
  have hS0 := hS
  have hS := st_freeze 0 6 hS rfl rfl
  have hS := st_also (t := 6) (q := 7) hS0 hS rfl rfl rfl
  have hS := st_also (t := 6) (q := 107) hS0 hS rfl rfl rfl
  cases h
  exact st_ret hS (run_results1 Tryz.results138 a w) (hS.get rfl)

theorem f78_ok {fuel : Nat} {p0 : S_api_Roster} {p1 : Int} {p2 : Bool} {r : (List Int)} (h : M.f78 fuel p0 p1 p2 = some r) : CallOK Tryz.prog 78 [isV p0, isV p1, isV p2] (isV r) := by
  unfold M.f78 at h
  refine callS_of Tryz.func78 rfl Tryz.ntmps78 rfl fun F0 w0 a hS => ?_
  refine ws ?_
  refine st_reg mixed (by kernel_rfl) hS ?_
  refine cg (sp_box (od rfl)) ?_
  refine cg (sp_assign (odnil (α := Int))) ?_
  refine sn fun a w hS => ?_
  refine et ?_
  refine ws ?_
  obtain ⟨v_1, e_2, h⟩ := bind_some h
  refine st_reg mixed (by kernel_rfl) hS ?_
  refine cg (sp_load ty25 (od rfl)) ?_
  refine mv rfl ?_
  refine mv rfl ?_
  refine cg (sp_call en138 (f138_ok e_2) ⟨od rfl, od rfl, od rfl, trivial⟩) ?_
  refine cg (sp_assign (od rfl)) ?_
  refine sn fun a w hS => ?_
  refine et ?_
  refine ws ?_
  refine st_reg mixed (by kernel_rfl) hS ?_
  refine cg (sp_assign (odi)) ?_
  refine sn fun a w hS => ?_
  refine et ?_
  refine ws ?_
  refine ws ?_
  refine st_reg mixed (by kernel_rfl) hS ?_
  refine cg (sp_assign (odi)) ?_
  refine sn fun a w hS => ?_
  refine et ?_
  refine wp_block ?_
  obtain ⟨o_4, e_5, hr_6⟩ := bind_some h
  refine c_loop (fun K a w => ∃ s_3 : Int × Int, loopM _ K s_3 = some o_4 ∧ St 104 F0 [] [(1, isV (α := Int) p1), (2, isV (α := Bool) p2), (3, isA (α := S_api_Roster) p0), (7, isV (α := List Int) v_1), (8, isV (α := Int) s_3.1), (9, isV (α := Int) s_3.2)] w0 a w) ?_ ?_ ⟨_, e_5, hS.weak ⟨od rfl, od rfl, od rfl, od rfl, od rfl, od rfl, trivial⟩⟩
  · rintro a w ⟨_, hk, _⟩; cases hk
  rintro K a w ⟨s_3, hF_4, hS⟩
  obtain ⟨o, h, hN_4, hL_4⟩ := loop_more hF_4
  refine ws ?_
  refine ws ?_
  refine st_reg mixed (by kernel_rfl) hS ?_
  refine mv rfl ?_
  refine mv rfl ?_
  refine cg (sp_len Tryz.underlying26 (od rfl)) ?_
  refine cg (sp_lss (od rfl) (od rfl)) ?_
  refine sn fun a w hS => ?_
  refine et ?_
  refine st_cond hS rfl (fun hb => ?_) (fun hb => ?_)
  · have h := ite_t hb h
    refine wp_skip ?_
    refine et ?_
    refine ws ?_
    refine wp_block ?_
    refine ws ?_
    obtain ⟨v_7, e_8, h⟩ := bind_some h
    obtain ⟨v_9, e_10, h⟩ := bind_some h
    obtain ⟨v_11, e_12, h⟩ := bind_some h
    obtain ⟨v_13, e_14, h⟩ := bind_some h
    obtain ⟨v_15, e_16, h⟩ := bind_some h
    refine st_reg mixed (by kernel_rfl) hS ?_
    refine mv rfl ?_
    refine mv rfl ?_
    refine cg (sp_indexAddr sl26 (od rfl) (od rfl) e_8) ?_
    refine cg (sp_load ty3 (od rfl)) ?_
    refine cg (sp_lss (od rfl) (odi)) ?_
    refine mv rfl ?_
    refine sc (sgT rfl fun hG => sp_fieldAddr fd25_4 (od rfl)) ?_
    refine sc (sgT rfl fun hG => sp_load ty23 (odw rfl hG)) ?_
    refine sc (sgT rfl fun hG => sp_move (od rfl)) ?_
    refine sc (sgT rfl fun hG => sp_indexAddr sl23 (odw rfl hG) (odw rfl hG) (guard_some e_10 hG)) ?_
    refine sc (sgT rfl fun hG => sp_fieldAddr fd45_0 (odw rfl hG)) ?_
    refine sc (sgT rfl fun hG => sp_load ty3 (odw rfl hG)) ?_
    refine sc (sgT rfl fun hG => sp_move (od rfl)) ?_
    refine sc (sgT rfl fun hG => sp_eql (odw rfl hG) (odw rfl hG)) ?_
    refine cg (sp_pickAnd (od rfl) fun hg => odw rfl hg) ?_
    refine mv rfl ?_
    refine sc (sgT rfl fun hG => sp_load ty25 (od rfl)) ?_
    refine sc (sgT rfl fun hG => sp_move (od rfl)) ?_
    refine sc (sgT rfl fun hG => sp_call en83 (f83_ok (guard_some e_12 hG)) ⟨odw rfl hG, odw rfl hG, trivial⟩) ?_
    refine cg (sp_pickAnd (od rfl) fun hg => odw rfl hg) ?_
    refine mv rfl ?_
    refine sc (sgT rfl fun hG => sp_move (od rfl)) ?_
    refine sc (sgT rfl fun hG => sp_lss (odw rfl hG) (odi)) ?_
    refine sc (sgT rfl fun hG => sp_move (odw rfl hG)) ?_
    refine sc (sgwF rfl fun hG => sp_move (od rfl)) ?_
    refine sc (sgwF rfl fun hG => sp_move (od rfl)) ?_
    refine sc (sgwF rfl fun hG => sp_indexAddr sl26 (odw rfl hG) (odw rfl hG) (guard_some e_14 hG)) ?_
    refine sc (sgwF rfl fun hG => sp_load ty3 (odw rfl hG)) ?_
    refine sc (sgwF rfl fun hG => sp_move (od rfl)) ?_
    refine sc (sgwF rfl fun hG => sp_move (od rfl)) ?_
    refine sc (sgwF rfl fun hG => sp_indexAddr sl26 (odw rfl hG) (odw rfl hG) (guard_some e_16 hG)) ?_
    refine sc (sgwF rfl fun hG => sp_load ty3 (odw rfl hG)) ?_
    refine sc (sgwF rfl fun hG => sp_lss (odw rfl hG) (odw rfl hG)) ?_
    refine sc (sgT rfl fun hG => sp_pickOr (odw rfl hG) fun hg => odw rfl (and_mk hG (not_t hg))) ?_
    refine cg (sp_pickAnd (od rfl) fun hg => odw rfl hg) ?_
    refine sn fun a w hS => ?_
    refine et ?_
    obtain ⟨y_18, hj_17, h⟩ := bind_some h
    refine wp_mono (Q := fun e a w => e = Exit.normal ∧ St 104 F0 [] [(1, isV (α := Int) p1), (2, isV (α := Bool) p2), (3, isA (α := S_api_Roster) p0), (7, isV (α := List Int) v_1), (8, isV (α := Int) y_18), (9, isV (α := Int) s_3.2)] w0 a w) ?_ ?_
    · refine st_cond hS rfl (fun hb => ?_) (fun hb => ?_)
      · have h := ite_t hb hj_17
        refine st_reg mixed (by kernel_rfl) hS ?_
        refine mv rfl ?_
        refine cg (sp_assign (od rfl)) ?_
        refine sn fun a w hS => ?_
        cases h
        exact ⟨rfl, hS.weak ⟨od rfl, od rfl, od rfl, od rfl, od rfl, od rfl, trivial⟩⟩
      have h := ite_f hb hj_17
      refine wp_skip ?_
      cases h
      exact ⟨rfl, hS.weak ⟨od rfl, od rfl, od rfl, od rfl, od rfl, od rfl, trivial⟩⟩
    rintro e a w ⟨rfl, hS⟩
    refine exit_block ?_
    refine et ?_
    refine st_reg mixed (by kernel_rfl) hS ?_
    refine mv rfl ?_
    refine cg (sp_add (od rfl) (odi)) ?_
    refine cg (sp_assign (od rfl)) ?_
    refine sn fun a w hS => ?_
    cases h
    exact ⟨_, hN_4 _ rfl, hS.weak ⟨od rfl, od rfl, od rfl, od rfl, od rfl, od rfl, trivial⟩⟩
  have h := ite_f hb h
  refine wp_exit ?_
  refine exit_thenE ?_
  cases h
  obtain rfl := hL_4 _ rfl
  have h := hr_6
  refine exit_thenE ?_
  refine exit_here ?_
  refine et ?_
  refine ws ?_
  refine st_reg mixed (by kernel_rfl) hS ?_
  refine cg (sp_assign (φ := Pr.is (.slice none 0 0)) (odc fun _ => rfl)) ?_
  refine sn fun a w hS => ?_
  have hS := st_nil (α := Int) 3 hS
  have hS : St _ F0 [Item.sl (α := Int) 3 (.slice none 0 0) ([] : List Int)] _ w0 _ _ := hS
  refine et ?_
  refine ws ?_
  refine wp_block ?_
  obtain ⟨o_20, e_21, hr_22⟩ := bind_some h
  refine c_loop (fun K a w => ∃ s_19 : Int × (List Int), ∃ u_23 : Value, loopM _ K s_19 = some o_20 ∧ St 104 F0 [Item.sl (α := Int) 3 u_23 s_19.2] [(2, isV (α := Bool) p2), (3, isA (α := S_api_Roster) p0), (7, isV (α := List Int) v_1), (8, isV (α := Int) s_19.1), (10, Pr.is u_23)] w0 a w) ?_ ?_ ⟨_, (.slice none 0 0), e_21, hS.weak ⟨od rfl, od rfl, od rfl, od rfl, od rfl, trivial⟩⟩
  · rintro a w ⟨_, _, hk, _⟩; cases hk
  rintro K a w ⟨s_19, u_23, hF_20, hS⟩
  obtain ⟨o, h, hN_20, hL_20⟩ := loop_more hF_20
  refine ws ?_
  refine ws ?_
  refine st_reg mixed (by kernel_rfl) hS ?_
  refine mv rfl ?_
  refine cg (sp_geq (od rfl) (odi)) ?_
  refine sn fun a w hS => ?_
  refine et ?_
  refine st_cond hS rfl (fun hb => ?_) (fun hb => ?_)
  · have h := ite_t hb h
    refine wp_skip ?_
    refine et ?_
    refine wp_block ?_
    refine ws ?_
    obtain ⟨z_24, e_25, h⟩ := bind_some h
    refine l_start ?_
    refine s_c hS (sg (sp_move (od rfl))) rfl fun a w hS hM => ?_
    refine s_c hS (sg (sp_move (od rfl))) rfl fun a w hS hM => ?_
    refine s_c hS (sg (sp_buildSlice [.tmp 63] ([s_19.1] : List Int) sl26 ze3 rfl rfl rfl rfl ⟨od rfl, trivial⟩)) rfl fun a w hS hM => ?_
    refine s_append (k := 0) (Δ := [(2, isV (α := Bool) p2), (3, isA (α := S_api_Roster) p0), (7, isV (α := List Int) v_1), (8, isV (α := Int) s_19.1), (62, Pr.is u_23), (64, isV (α := List Int) ([s_19.1] : List Int))]) sl26 ze3 hS rfl ⟨od rfl, od rfl, od rfl, od rfl, od rfl, od rfl, trivial⟩ ⟨fun _ _ _ _ h => h, fun _ _ _ _ h => h, fun _ _ _ _ h => h, fun _ _ _ _ h => h, fun _ _ _ _ h => h, fun _ _ _ _ h => h, trivial⟩ (od rfl) (od rfl) e_25 rfl fun a w u_26 hS hM => ?_
    have hS : St _ F0 [Item.sl (α := Int) 3 u_26 z_24] _ w0 _ _ := hS
    refine s_c hS (sg (sp_assign (od rfl))) rfl fun a w hS hM => ?_
    refine l_end ?_
    refine et ?_
    refine ws ?_
    obtain ⟨v_27, e_28, h⟩ := bind_some h
    obtain ⟨v_29, e_30, h⟩ := bind_some h
    obtain ⟨v_31, e_32, h⟩ := bind_some h
    refine st_reg mixed (by kernel_rfl) hS ?_
    refine mv rfl ?_
    refine mv rfl ?_
    refine cg (sp_indexAddr sl26 (od rfl) (od rfl) e_28) ?_
    refine cg (sp_load ty3 (od rfl)) ?_
    refine cg (sp_fieldAddr fd25_4 (od rfl)) ?_
    refine cg (sp_load ty23 (od rfl)) ?_
    refine mv rfl ?_
    refine cg (sp_indexAddr sl23 (od rfl) (od rfl) e_30) ?_
    refine cg (sp_load ty45 (od rfl)) ?_
    refine mv rfl ?_
    refine cg (sp_call en139 (f139_ok e_32) ⟨od rfl, od rfl, trivial⟩) ?_
    refine cg (sp_sub (od rfl) (od rfl)) ?_
    refine cg (sp_assign (od rfl)) ?_
    refine sn fun a w hS => ?_
    refine et ?_
    refine ws ?_
    refine st_reg mixed (by kernel_rfl) hS ?_
    refine cg (sp_assign (odi)) ?_
    refine sn fun a w hS => ?_
    refine et ?_
    refine ws ?_
    refine ws ?_
    refine st_reg mixed (by kernel_rfl) hS ?_
    refine mv rfl ?_
    refine cg (sp_len Tryz.underlying26 (od rfl)) ?_
    refine cg (sp_sub (od rfl) (odi)) ?_
    refine cg (sp_assign (od rfl)) ?_
    refine sn fun a w hS => ?_
    refine et ?_
    refine wp_block ?_
    obtain ⟨o_34, e_35, hr_36⟩ := bind_some h
    refine c_loop (fun K a w => ∃ s_33 : Int × Int, loopM _ K s_33 = some o_34 ∧ St 104 F0 [Item.sl (α := Int) 3 u_26 z_24] [(2, isV (α := Bool) p2), (3, isA (α := S_api_Roster) p0), (7, isV (α := List Int) v_1), (8, isV (α := Int) s_19.1), (10, Pr.is u_26), (11, isV (α := Int) (wr (v_27 - v_31))), (12, isV (α := Int) s_33.1), (13, isV (α := Int) s_33.2)] w0 a w) ?_ ?_ ⟨_, e_35, hS.weak ⟨od rfl, od rfl, od rfl, od rfl, od rfl, od rfl, od rfl, od rfl, trivial⟩⟩
    · rintro a w ⟨_, hk, _⟩; cases hk
    rintro K a w ⟨s_33, hF_34, hS⟩
    obtain ⟨o, h, hN_34, hL_34⟩ := loop_more hF_34
    refine ws ?_
    refine ws ?_
    refine st_reg mixed (by kernel_rfl) hS ?_
    refine mv rfl ?_
    refine cg (sp_geq (od rfl) (odi)) ?_
    refine mv rfl ?_
    refine sc (sgT rfl fun hG => sp_move (od rfl)) ?_
    refine sc (sgT rfl fun hG => sp_gtr (odw rfl hG) (odi)) ?_
    refine cg (sp_pickAnd (od rfl) fun hg => odw rfl hg) ?_
    refine sn fun a w hS => ?_
    refine et ?_
    refine st_cond hS rfl (fun hb => ?_) (fun hb => ?_)
    · have h := ite_t hb h
      refine wp_skip ?_
      refine et ?_
      refine ws ?_
      refine wp_block ?_
      refine ws ?_
      obtain ⟨v_37, e_38, h⟩ := bind_some h
      obtain ⟨v_39, e_40, h⟩ := bind_some h
      refine st_reg mixed (by kernel_rfl) hS ?_
      refine cg (sp_load ty25 (od rfl)) ?_
      refine mv rfl ?_
      refine mv rfl ?_
      refine cg (sp_call en84 (f84_ok e_38) ⟨od rfl, od rfl, od rfl, trivial⟩) ?_
      refine mv rfl ?_
      refine sc (sgT rfl fun hG => sp_move (od rfl)) ?_
      refine sc (sgT rfl fun hG => sp_move (od rfl)) ?_
      refine sc (sgT rfl fun hG => sp_indexAddr sl26 (odw rfl hG) (odw rfl hG) (guard_some e_40 hG)) ?_
      refine sc (sgT rfl fun hG => sp_load ty3 (odw rfl hG)) ?_
      refine sc (sgT rfl fun hG => sp_move (od rfl)) ?_
      refine sc (sgT rfl fun hG => sp_eql (odw rfl hG) (odw rfl hG)) ?_
      refine cg (sp_pickAnd (od rfl) fun hg => odw rfl hg) ?_
      refine sn fun a w hS => ?_
      refine et ?_
      obtain ⟨y_42, hj_41, h⟩ := bind_some h
      refine wp_mono (Q := fun e a w => e = Exit.normal ∧ St 104 F0 [Item.sl (α := Int) 3 u_26 z_24] [(2, isV (α := Bool) p2), (3, isA (α := S_api_Roster) p0), (7, isV (α := List Int) v_1), (8, isV (α := Int) s_19.1), (10, Pr.is u_26), (11, isV (α := Int) (wr (v_27 - v_31))), (12, isV (α := Int) y_42), (13, isV (α := Int) s_33.2)] w0 a w) ?_ ?_
      · refine st_cond hS rfl (fun hb => ?_) (fun hb => ?_)
        · have h := ite_t hb hj_41
          refine st_reg mixed (by kernel_rfl) hS ?_
          refine mv rfl ?_
          refine cg (sp_assign (od rfl)) ?_
          refine sn fun a w hS => ?_
          cases h
          exact ⟨rfl, hS.weak ⟨od rfl, od rfl, od rfl, od rfl, od rfl, od rfl, od rfl, od rfl, trivial⟩⟩
        have h := ite_f hb hj_41
        refine wp_skip ?_
        cases h
        exact ⟨rfl, hS.weak ⟨od rfl, od rfl, od rfl, od rfl, od rfl, od rfl, od rfl, od rfl, trivial⟩⟩
      rintro e a w ⟨rfl, hS⟩
      refine exit_block ?_
      refine et ?_
      refine st_reg mixed (by kernel_rfl) hS ?_
      refine mv rfl ?_
      refine cg (sp_sub (od rfl) (odi)) ?_
      refine cg (sp_assign (od rfl)) ?_
      refine sn fun a w hS => ?_
      cases h
      exact ⟨_, hN_34 _ rfl, hS.weak ⟨od rfl, od rfl, od rfl, od rfl, od rfl, od rfl, od rfl, od rfl, trivial⟩⟩
    have h := ite_f hb h
    refine wp_exit ?_
    refine exit_thenE ?_
    cases h
    obtain rfl := hL_34 _ rfl
    have h := hr_36
    refine exit_thenE ?_
    refine exit_here ?_
    refine et ?_
    refine st_reg mixed (by kernel_rfl) hS ?_
    refine mv rfl ?_
    refine cg (sp_assign (od rfl)) ?_
    refine sn fun a w hS => ?_
    refine exit_block ?_
    cases h
    exact ⟨_, u_26, hN_20 _ rfl, hS.weak ⟨od rfl, od rfl, od rfl, od rfl, od rfl, trivial⟩⟩
  have h := ite_f hb h
  refine wp_exit ?_
  refine exit_thenE ?_
  cases h
  obtain rfl := hL_20 _ rfl
  have h := hr_22
  refine exit_thenE ?_
  refine exit_here ?_
  refine et ?_
  refine ws ?_
  refine st_reg mixed (by kernel_rfl) hS ?_
  refine mv rfl ?_
  refine cg (sp_assign (od rfl)) ?_
  refine sn fun a w hS => ?_
  refine et ?_
  refine wp_ret ?_
  have hS0 := hS
  have hS := st_freeze 0 6 hS rfl rfl
  have hS := st_also (t := 6) (q := 10) hS0 hS rfl rfl rfl
  have hS := st_also (t := 6) (q := 103) hS0 hS rfl rfl rfl
  cases h
  exact st_ret hS (run_results1 Tryz.results78 a w) (hS.get rfl)

end Go.Proofs.YthogdhepjcomjaaGreatDoor
