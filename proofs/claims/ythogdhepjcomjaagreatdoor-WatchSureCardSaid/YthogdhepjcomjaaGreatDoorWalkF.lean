/-
  What is proved: each Go function named here returns what its model tells, and changes nothing that was there; where the model tells something.
-/
import Derived.Test.YthogdhepjcomjaaGreatDoorWalkE
import Derived.Test.YthogdhepjcomjaaGreatDoorModelF
set_option linter.unusedVariables false
set_option maxRecDepth 100000
namespace Go.Proofs.YthogdhepjcomjaaGreatDoor
open Go Go.RowKit Go.Proofs.YthogdhepjcomjaaGreatDoor.Wh

theorem f39_ok {p0 : S_api_Roster} {p1 : Int} {p2 : Int} {p3 : Bool} {r : (List Int)} (h : M.f39 p0 p1 p2 p3 = some r) : CallOK Tryz.prog 39 [isV p0, isV p1, isV p2, isV p3] (isV r) := by
  unfold M.f39 at h
  refine callS_of Tryz.func39 rfl Tryz.ntmps39 rfl fun F0 w0 a hS => ?_
  refine ws ?_
  refine st_reg mixed (by kernel_rfl) hS ?_
  refine cg (sp_box (od rfl)) ?_
  refine cg (sp_assign (odnil (α := Int))) ?_
  refine sn fun a w hS => ?_
  refine et ?_
  refine ws ?_
  refine st_reg mixed (by kernel_rfl) hS ?_
  refine cg (sp_assign (φ := Pr.is (.slice none 0 0)) (odc fun _ => rfl)) ?_
  refine sn fun a w hS => ?_
  have hS := st_nil (α := Int) 3 hS
  have hS : St _ F0 [Item.sl (α := Int) 3 (.slice none 0 0) ([] : List Int)] _ w0 _ _ := hS
  refine et ?_
  refine ws ?_
  refine ws ?_
  refine st_reg mixed (by kernel_rfl) hS ?_
  refine cg (sp_fieldAddr fd25_3 (od rfl)) ?_
  refine cg (sp_load ty22 (od rfl)) ?_
  refine cg (sp_len Tryz.underlying22 (od rfl)) ?_
  refine cg (sp_move (odi)) ?_
  refine sn fun a w hS => ?_
  refine et ?_
  refine wp_block ?_
  obtain ⟨o_4, e_5, hr_6⟩ := bind_some h
  refine c_loop (fun K a w => ∃ k i_1 s_3, ∃ u_7 : Value, K = k + 1 ∧ ForT _ _ _ o_4 k i_1 s_3 ∧ St 46 F0 [Item.sl (α := Int) 3 u_7 s_3] [(1, isV (α := Int) p1), (2, isV (α := Int) p2), (3, isV (α := Bool) p3), (4, isA (α := S_api_Roster) p0), (9, Pr.is u_7), (13, isV (α := Int) (p0.2.2.2.1.length : Int)), (14, isV (α := Int) i_1)] w0 a w) ?_ ?_ ⟨_, _, _, (.slice none 0 0), rfl, fors_init e_5, hS.weak ⟨od rfl, od rfl, od rfl, od rfl, od rfl, od rfl, od rfl, trivial⟩⟩
  · rintro a w ⟨_, _, _, _, hk, _⟩; cases hk
  rintro K a w ⟨k_4, i_1, s_3, u_7, hk, hF_4, hS⟩
  obtain rfl := Nat.succ.inj hk
  refine ws ?_
  refine st_reg mixed (by kernel_rfl) hS ?_
  refine cg (sp_lss (od rfl) (od rfl)) ?_
  refine sn fun a w hS => ?_
  refine et ?_
  refine ws ?_
  refine st_cond hS rfl (fun hb => ?_) (fun hb => ?_)
  · refine wp_skip ?_
    refine et ?_
    obtain ⟨k_4, s', rfl, h, hF_4, hw_4⟩ := fors_more hF_4 hb
    refine ws ?_
    refine wp_block ?_
    refine ws ?_
    refine st_reg mixed (by kernel_rfl) hS ?_
    refine mv rfl ?_
    refine cg (sp_assign (od rfl)) ?_
    refine sn fun a w hS => ?_
    refine et ?_
    refine ws ?_
    refine st_reg mixed (by kernel_rfl) hS ?_
    refine mv rfl ?_
    refine sn fun a w hS => ?_
    refine et ?_
    obtain ⟨y_9, hj_8, h⟩ := bind_some h
    refine wp_mono (Q := fun e a w => e = Exit.normal ∧ ∃ u_10 : Value, St 46 F0 [Item.sl (α := Int) 3 u_10 y_9] [(1, isV (α := Int) p1), (2, isV (α := Int) p2), (3, isV (α := Bool) p3), (4, isA (α := S_api_Roster) p0), (9, Pr.is u_10), (13, isV (α := Int) (p0.2.2.2.1.length : Int)), (14, isV (α := Int) i_1)] w0 a w) ?_ ?_
    · refine st_cond hS rfl (fun hb => ?_) (fun hb => ?_)
      · have h := ite_t hb hj_8
        obtain ⟨v_11, e_12, h⟩ := bind_some h
        obtain ⟨v_13, e_14, h⟩ := bind_some h
        obtain ⟨z_15, e_16, h⟩ := bind_some h
        refine l_start ?_
        refine s_c hS (sg (sp_move (od rfl))) rfl fun a w hS hM => ?_
        refine s_c hS (sg (sp_move (od rfl))) rfl fun a w hS hM => ?_
        refine s_c hS (sg (sp_fieldAddr fd25_3 (od rfl))) rfl fun a w hS hM => ?_
        refine s_c hS (sg (sp_load ty22 (od rfl))) rfl fun a w hS hM => ?_
        refine s_c hS (sg (sp_move (od rfl))) rfl fun a w hS hM => ?_
        refine s_c hS (sg (sp_indexAddr sl22 (od rfl) (od rfl) e_12)) rfl fun a w hS hM => ?_
        refine s_c hS (sg (sp_load ty26 (od rfl))) rfl fun a w hS hM => ?_
        refine s_c hS (sg (sp_move (od rfl))) rfl fun a w hS hM => ?_
        refine s_c hS (sg (sp_indexAddr sl26 (od rfl) (od rfl) e_14)) rfl fun a w hS hM => ?_
        refine s_c hS (sg (sp_load ty3 (od rfl))) rfl fun a w hS hM => ?_
        refine s_c hS (sg (sp_add (od rfl) (od rfl))) rfl fun a w hS hM => ?_
        refine s_c hS (sg (sp_buildSlice [.tmp 28] ([(wr (p2 + v_13))] : List Int) sl26 ze3 rfl rfl rfl rfl ⟨od rfl, trivial⟩)) rfl fun a w hS hM => ?_
        refine s_append (k := 0) (Δ := [(1, isV (α := Int) p1), (2, isV (α := Int) p2), (3, isV (α := Bool) p3), (4, isA (α := S_api_Roster) p0), (13, isV (α := Int) (p0.2.2.2.1.length : Int)), (14, isV (α := Int) i_1), (18, Pr.is u_7), (29, isV (α := List Int) ([(wr (p2 + v_13))] : List Int))]) sl26 ze3 hS rfl ⟨od rfl, od rfl, od rfl, od rfl, od rfl, od rfl, od rfl, od rfl, trivial⟩ ⟨fun _ _ _ _ h => h, fun _ _ _ _ h => h, fun _ _ _ _ h => h, fun _ _ _ _ h => h, fun _ _ _ _ h => h, fun _ _ _ _ h => h, fun _ _ _ _ h => h, fun _ _ _ _ h => h, trivial⟩ (od rfl) (od rfl) e_16 rfl fun a w u_17 hS hM => ?_
        have hS : St _ F0 [Item.sl (α := Int) 3 u_17 z_15] _ w0 _ _ := hS
        refine s_c hS (sg (sp_assign (od rfl))) rfl fun a w hS hM => ?_
        refine l_end ?_
        cases h
        exact ⟨rfl, u_17, hS.weak ⟨od rfl, od rfl, od rfl, od rfl, od rfl, od rfl, od rfl, trivial⟩⟩
      have h := ite_f hb hj_8
      obtain ⟨v_18, e_19, h⟩ := bind_some h
      obtain ⟨v_20, e_21, h⟩ := bind_some h
      obtain ⟨z_22, e_23, h⟩ := bind_some h
      refine l_start ?_
      refine s_c hS (sg (sp_move (od rfl))) rfl fun a w hS hM => ?_
      refine s_c hS (sg (sp_move (od rfl))) rfl fun a w hS hM => ?_
      refine s_c hS (sg (sp_fieldAddr fd25_3 (od rfl))) rfl fun a w hS hM => ?_
      refine s_c hS (sg (sp_load ty22 (od rfl))) rfl fun a w hS hM => ?_
      refine s_c hS (sg (sp_move (od rfl))) rfl fun a w hS hM => ?_
      refine s_c hS (sg (sp_indexAddr sl22 (od rfl) (od rfl) e_19)) rfl fun a w hS hM => ?_
      refine s_c hS (sg (sp_load ty26 (od rfl))) rfl fun a w hS hM => ?_
      refine s_c hS (sg (sp_move (od rfl))) rfl fun a w hS hM => ?_
      refine s_c hS (sg (sp_indexAddr sl26 (od rfl) (od rfl) e_21)) rfl fun a w hS hM => ?_
      refine s_c hS (sg (sp_load ty3 (od rfl))) rfl fun a w hS hM => ?_
      refine s_c hS (sg (sp_sub (od rfl) (od rfl))) rfl fun a w hS hM => ?_
      refine s_c hS (sg (sp_buildSlice [.tmp 41] ([(wr (p2 - v_20))] : List Int) sl26 ze3 rfl rfl rfl rfl ⟨od rfl, trivial⟩)) rfl fun a w hS hM => ?_
      refine s_append (k := 0) (Δ := [(1, isV (α := Int) p1), (2, isV (α := Int) p2), (3, isV (α := Bool) p3), (4, isA (α := S_api_Roster) p0), (13, isV (α := Int) (p0.2.2.2.1.length : Int)), (14, isV (α := Int) i_1), (31, Pr.is u_7), (42, isV (α := List Int) ([(wr (p2 - v_20))] : List Int))]) sl26 ze3 hS rfl ⟨od rfl, od rfl, od rfl, od rfl, od rfl, od rfl, od rfl, od rfl, trivial⟩ ⟨fun _ _ _ _ h => h, fun _ _ _ _ h => h, fun _ _ _ _ h => h, fun _ _ _ _ h => h, fun _ _ _ _ h => h, fun _ _ _ _ h => h, fun _ _ _ _ h => h, fun _ _ _ _ h => h, trivial⟩ (od rfl) (od rfl) e_23 rfl fun a w u_24 hS hM => ?_
      have hS : St _ F0 [Item.sl (α := Int) 3 u_24 z_22] _ w0 _ _ := hS
      refine s_c hS (sg (sp_assign (od rfl))) rfl fun a w hS hM => ?_
      refine l_end ?_
      cases h
      exact ⟨rfl, u_24, hS.weak ⟨od rfl, od rfl, od rfl, od rfl, od rfl, od rfl, od rfl, trivial⟩⟩
    rintro e a w ⟨rfl, u_10, hS⟩
    refine exit_block ?_
    refine et ?_
    refine st_reg mixed (by kernel_rfl) hS ?_
    refine cg (sp_add (od rfl) (odi)) ?_
    refine mv rfl ?_
    refine sn fun a w hS => ?_
    cases h
    exact ⟨k_4, _, _, u_10, rfl, hF_4, hS.weak ⟨od rfl, od rfl, od rfl, od rfl, od rfl, od rfl, od (congrArg (fun z => some (isV (α := Int) z)) hw_4), trivial⟩⟩
  refine wp_exit ?_
  obtain rfl := (fors_done hF_4 hb).symm
  have h := hr_6
  refine exit_thenE ?_
  refine exit_thenE ?_
  refine exit_here ?_
  refine et ?_
  refine ws ?_
  refine st_reg mixed (by kernel_rfl) hS ?_
  refine mv rfl ?_
  refine cg (sp_assign (od rfl)) ?_
  refine sn fun a w hS => ?_
  refine et ?_
  refine wp_ret ?_
  have hS0 := hS
  have hS := st_freeze 0 8 hS rfl rfl
  have hS := st_also (t := 8) (q := 9) hS0 hS rfl rfl rfl
  have hS := st_also (t := 8) (q := 45) hS0 hS rfl rfl rfl
  cases h
  exact st_ret hS (run_results1 Tryz.results39 a w) (hS.get rfl)

theorem f6_ok {fuel : Nat} {p0 : S_api_Roster} {p1 : Int} {p2 : Int} {p3 : List Int} {r : Bool} (h : M.f6 fuel p0 p1 p2 p3 = some r) : CallT Tryz.prog 6 [isV p0, isV p1, isV p2, isV p3] (isV r) := by
  unfold M.f6 at h
  refine callT_of Tryz.func6 rfl Tryz.ntmps6 rfl fun F0 w0 a hT hS => ?_
  refine ws ?_
  refine st_reg mixed (by kernel_rfl) hS ?_
  refine cg (sp_box (od rfl)) ?_
  refine cg (sp_assign (odb)) ?_
  refine sn fun a w hS => ?_
  refine et ?_
  refine ws ?_
  refine ws ?_
  obtain ⟨v_1, e_2, h⟩ := bind_some h
  refine l_start ?_
  refine s_callT en16 (f16_ok e_2) hT hS trivial rfl fun a w hS hM => ?_
  refine s_c hS (sg (sp_not (od rfl))) rfl fun a w hS hM => ?_
  refine l_end ?_
  refine et ?_
  refine st_cond hS rfl (fun hb => ?_) (fun hb => ?_)
  · have h := ite_t hb h
    refine ws ?_
    refine st_reg mixed (by kernel_rfl) hS ?_
    refine cg (sp_assign (odb)) ?_
    refine sn fun a w hS => ?_
    refine et ?_
    refine wp_ret ?_
    refine exit_thenR ?_
    cases h
    exact st_ret hS (run_results1 Tryz.results6 a w) (hS.get rfl)
  have h := ite_f hb h
  refine wp_skip ?_
  refine et ?_
  refine ws ?_
  refine ws ?_
  obtain ⟨v_3, e_4, h⟩ := bind_some h
  obtain ⟨v_5, e_6, h⟩ := bind_some h
  refine st_reg mixed (by kernel_rfl) hS ?_
  refine cg (sp_load ty25 (od rfl)) ?_
  refine cg (sp_call en33 (f33_ok e_4) ⟨od rfl, trivial⟩) ?_
  refine cg (sp_not (od rfl)) ?_
  refine mv rfl ?_
  refine sc (sgF rfl fun hG => sp_load ty25 (od rfl)) ?_
  refine sc (sgF rfl fun hG => sp_move (od rfl)) ?_
  refine sc (sgF rfl fun hG => sp_buildSlice [.tmp 33] ([p3] : List (List Int)) sl22 ze26 rfl rfl rfl rfl ⟨odw rfl hG, trivial⟩) ?_
  refine sc (sgF rfl fun hG => sp_call en17 (f17_ok (guard_some e_6 hG)) ⟨odw rfl hG, odw rfl hG, trivial⟩) ?_
  refine sc (sgF rfl fun hG => sp_not (odw rfl hG)) ?_
  refine cg (sp_pickOr (od rfl) fun hg => odw rfl (not_t hg)) ?_
  refine mv rfl ?_
  refine sc (sgF rfl fun hG => sp_move (od rfl)) ?_
  refine sc (sgF rfl fun hG => sp_lss (odw rfl hG) (odi)) ?_
  refine cg (sp_pickOr (od rfl) fun hg => odw rfl (not_t hg)) ?_
  refine mv rfl ?_
  refine sc (sgF rfl fun hG => sp_move (od rfl)) ?_
  refine sc (sgF rfl fun hG => sp_fieldAddr fd25_4 (od rfl)) ?_
  refine sc (sgF rfl fun hG => sp_load ty23 (odw rfl hG)) ?_
  refine sc (sgF rfl fun hG => sp_len Tryz.underlying23 (odw rfl hG)) ?_
  refine sc (sgF rfl fun hG => sp_geq (odw rfl hG) (odw rfl hG)) ?_
  refine cg (sp_pickOr (od rfl) fun hg => odw rfl (not_t hg)) ?_
  refine mv rfl ?_
  refine sc (sgF rfl fun hG => sp_move (od rfl)) ?_
  refine sc (sgF rfl fun hG => sp_lss (odw rfl hG) (odi)) ?_
  refine cg (sp_pickOr (od rfl) fun hg => odw rfl (not_t hg)) ?_
  refine mv rfl ?_
  refine sc (sgF rfl fun hG => sp_move (od rfl)) ?_
  refine sc (sgF rfl fun hG => sp_fieldAddr fd25_4 (od rfl)) ?_
  refine sc (sgF rfl fun hG => sp_load ty23 (odw rfl hG)) ?_
  refine sc (sgF rfl fun hG => sp_len Tryz.underlying23 (odw rfl hG)) ?_
  refine sc (sgF rfl fun hG => sp_geq (odw rfl hG) (odw rfl hG)) ?_
  refine cg (sp_pickOr (od rfl) fun hg => odw rfl (not_t hg)) ?_
  refine sn fun a w hS => ?_
  refine et ?_
  refine st_cond hS rfl (fun hb => ?_) (fun hb => ?_)
  · have h := ite_t hb h
    refine ws ?_
    refine st_reg mixed (by kernel_rfl) hS ?_
    refine cg (sp_assign (odb)) ?_
    refine sn fun a w hS => ?_
    refine et ?_
    refine wp_ret ?_
    refine exit_thenR ?_
    cases h
    exact st_ret hS (run_results1 Tryz.results6 a w) (hS.get rfl)
  have h := ite_f hb h
  refine wp_skip ?_
  refine et ?_
  refine ws ?_
  obtain ⟨v_7, e_8, h⟩ := bind_some h
  obtain ⟨v_9, e_10, h⟩ := bind_some h
  have hS := hS.weak (Δ := [(0, isV (α := S_api_Roster) p0), (1, isV (α := Int) p1), (2, isV (α := Int) p2), (3, isV (α := List Int) p3), (4, isA (α := S_api_Roster) p0), (8, isV (α := Bool) false), (26, isV (α := Bool) v_1), (27, isV (α := Bool) (!v_1)), (28, isV (α := S_api_Roster) p0), (29, isV (α := Bool) v_3), (30, isV (α := Bool) (!v_3)), (31, isV (α := Bool) (!v_3)), (37, isV (α := Bool) ((!v_3) || (!v_5))), (38, isV (α := Bool) ((!v_3) || (!v_5))), (41, isV (α := Bool) (((!v_3) || (!v_5)) || (decide (p1 < 0)))), (42, isV (α := Bool) (((!v_3) || (!v_5)) || (decide (p1 < 0)))), (48, isV (α := Bool) ((((!v_3) || (!v_5)) || (decide (p1 < 0))) || (decide ((p0.2.2.2.2.length : Int) ≤ p1)))), (49, isV (α := Bool) ((((!v_3) || (!v_5)) || (decide (p1 < 0))) || (decide ((p0.2.2.2.2.length : Int) ≤ p1)))), (52, isV (α := Bool) (((((!v_3) || (!v_5)) || (decide (p1 < 0))) || (decide ((p0.2.2.2.2.length : Int) ≤ p1))) || (decide (p2 < 0)))), (53, isV (α := Bool) (((((!v_3) || (!v_5)) || (decide (p1 < 0))) || (decide ((p0.2.2.2.2.length : Int) ≤ p1))) || (decide (p2 < 0)))), (59, isV (α := Bool) ((((((!v_3) || (!v_5)) || (decide (p1 < 0))) || (decide ((p0.2.2.2.2.length : Int) ≤ p1))) || (decide (p2 < 0))) || (decide ((p0.2.2.2.2.length : Int) ≤ p2))))]) ⟨od rfl, od rfl, od rfl, od rfl, od rfl, od rfl, od rfl, od rfl, od rfl, od rfl, od rfl, od rfl, od rfl, od rfl, od rfl, od rfl, od rfl, od rfl, od rfl, od rfl, od rfl, trivial⟩
  refine st_pairs mixed [0, 0, 0, 0, 0, 0, 0, 0, 0, 0, 3, 3, 4, 4] [⟨10, 12, 9, 45, S_api_Turn, inferInstance, ((0, 0, 0, 0, 0, 0) : S_api_Turn), v_7⟩, ⟨11, 13, 10, 45, S_api_Turn, inferInstance, ((0, 0, 0, 0, 0, 0) : S_api_Turn), v_9⟩] (by kernel_rfl) (by kernel_rfl) hS ⟨fun _ _ _ _ h => h, fun _ _ _ _ h => h, fun _ _ _ _ h => h, fun _ _ _ _ h => h, fun _ _ _ _ h => h, fun _ _ _ _ h => h, fun _ _ _ _ h => h, fun _ _ _ _ h => h, fun _ _ _ _ h => h, fun _ _ _ _ h => h, fun _ _ _ _ h => h, fun _ _ _ _ h => h, fun _ _ _ _ h => h, fun _ _ _ _ h => h, fun _ _ _ _ h => h, fun _ _ _ _ h => h, fun _ _ _ _ h => h, fun _ _ _ _ h => h, fun _ _ _ _ h => h, fun _ _ _ _ h => h, fun _ _ _ _ h => h, trivial⟩ ?_
  refine sq0 (fun _ _ _ _ h => h) (sg (sp_fieldAddr fd25_4 (od rfl))) ?_
  refine sq0 (fun _ _ _ _ h => h) (sg (sp_load ty23 (od rfl))) ?_
  refine sq0 (fun _ _ _ _ h => h) (sg (sp_move (od rfl))) ?_
  refine sq0 (fun _ _ _ _ h => h) (sg (sp_indexAddr sl23 (od rfl) (od rfl) e_8)) ?_
  refine sq0 (fun _ _ _ _ h => h) (sg (sp_load ty45 (od rfl))) ?_
  refine sq0 (fun _ _ _ _ h => h) (sg (sp_fieldAddr fd25_4 (od rfl))) ?_
  refine sq0 (fun _ _ _ _ h => h) (sg (sp_load ty23 (od rfl))) ?_
  refine sq0 (fun _ _ _ _ h => h) (sg (sp_move (od rfl))) ?_
  refine sq0 (fun _ _ _ _ h => h) (sg (sp_indexAddr sl23 (od rfl) (od rfl) e_10)) ?_
  refine sq0 (fun _ _ _ _ h => h) (sg (sp_load ty45 (od rfl))) ?_
  refine sqA 0 rfl zi45 ?_
  refine sqA 1 rfl zi45 ?_
  refine sqS 0 rfl ty45 (od rfl) ?_
  refine sqS 1 rfl ty45 (od rfl) ?_
  refine sqN fun a w bs hl hS => ?_
  obtain ⟨b_11, b_12, rfl⟩ := len2 hl
  have hS : St _ F0 [Item.box (α := S_api_Turn) 45 b_11 (v_7 : S_api_Turn), Item.box (α := S_api_Turn) 45 b_12 (v_9 : S_api_Turn)] ((9, Pr.ptr b_11) :: (10, Pr.ptr b_12) :: _) w0 _ _ := hS
  have hS := st_freezeB 0 9 hS rfl rfl
  have hS := st_freezeB 0 10 hS rfl rfl
  refine et ?_
  refine ws ?_
  obtain ⟨v_13, e_14, h⟩ := bind_some h
  refine st_reg mixed (by kernel_rfl) hS ?_
  refine cg (sp_load ty25 (od rfl)) ?_
  refine mv rfl ?_
  refine cg (sp_call en36 (f36_ok e_14) ⟨od rfl, od rfl, trivial⟩) ?_
  refine mv rfl ?_
  refine cg (sp_extract (od rfl) rfl) ?_
  refine cg (sp_extract (od rfl) rfl) ?_
  refine cg (sp_assign (od rfl)) ?_
  refine cg (sp_assign (od rfl)) ?_
  refine sn fun a w hS => ?_
  refine et ?_
  refine ws ?_
  obtain ⟨v_15, e_16, h⟩ := bind_some h
  refine st_reg mixed (by kernel_rfl) hS ?_
  refine cg (sp_load ty25 (od rfl)) ?_
  refine mv rfl ?_
  refine cg (sp_call en37 (f37_ok e_16) ⟨od rfl, od rfl, trivial⟩) ?_
  refine mv rfl ?_
  refine cg (sp_extract (od rfl) rfl) ?_
  refine cg (sp_extract (od rfl) rfl) ?_
  refine cg (sp_assign (od rfl)) ?_
  refine cg (sp_assign (od rfl)) ?_
  refine sn fun a w hS => ?_
  refine et ?_
  refine ws ?_
  obtain ⟨v_17, e_18, h⟩ := bind_some h
  refine st_reg mixed (by kernel_rfl) hS ?_
  refine cg (sp_load ty25 (od rfl)) ?_
  refine mv rfl ?_
  refine mv rfl ?_
  refine cg (sp_call en38 (f38_ok e_18) ⟨od rfl, od rfl, od rfl, trivial⟩) ?_
  refine mv rfl ?_
  refine cg (sp_extract (od rfl) rfl) ?_
  refine cg (sp_extract (od rfl) rfl) ?_
  refine cg (sp_assign (od rfl)) ?_
  refine cg (sp_assign (od rfl)) ?_
  refine sn fun a w hS => ?_
  refine et ?_
  refine ws ?_
  refine ws ?_
  refine st_reg mixed (by kernel_rfl) hS ?_
  refine mv rfl ?_
  refine cg (sp_neq (od rfl) (odi)) ?_
  refine mv rfl ?_
  refine sc (sgF rfl fun hG => sp_move (od rfl)) ?_
  refine sc (sgF rfl fun hG => sp_neq (odw rfl hG) (odi)) ?_
  refine cg (sp_pickOr (od rfl) fun hg => odw rfl (not_t hg)) ?_
  refine mv rfl ?_
  refine sc (sgF rfl fun hG => sp_move (od rfl)) ?_
  refine sc (sgF rfl fun hG => sp_neq (odw rfl hG) (odi)) ?_
  refine cg (sp_pickOr (od rfl) fun hg => odw rfl (not_t hg)) ?_
  refine sn fun a w hS => ?_
  refine et ?_
  refine st_cond hS rfl (fun hb => ?_) (fun hb => ?_)
  · have h := ite_t hb h
    refine ws ?_
    refine st_reg mixed (by kernel_rfl) hS ?_
    refine cg (sp_assign (odb)) ?_
    refine sn fun a w hS => ?_
    refine et ?_
    refine wp_ret ?_
    refine exit_thenR ?_
    cases h
    exact st_ret hS (run_results1 Tryz.results6 a w) (hS.get rfl)
  have h := ite_f hb h
  refine wp_skip ?_
  refine et ?_
  refine ws ?_
  obtain ⟨v_19, e_20, h⟩ := bind_some h
  obtain ⟨v_21, e_22, h⟩ := bind_some h
  obtain ⟨v_23, e_24, h⟩ := bind_some h
  refine st_reg mixed (by kernel_rfl) hS ?_
  refine cg (sp_load ty25 (od rfl)) ?_
  refine cg (sp_fieldAddr fd25_1 (od rfl)) ?_
  refine cg (sp_load ty3 (od rfl)) ?_
  refine cg (sp_call en39 (f39_ok e_20) ⟨od rfl, odi, od rfl, odb, trivial⟩) ?_
  refine cg (sp_load ty25 (od rfl)) ?_
  refine cg (sp_fieldAddr fd45_3 (od rfl)) ?_
  refine cg (sp_load ty3 (od rfl)) ?_
  refine cg (sp_fieldAddr fd45_4 (od rfl)) ?_
  refine cg (sp_load ty3 (od rfl)) ?_
  refine cg (sp_call en39 (f39_ok e_22) ⟨od rfl, od rfl, od rfl, odb, trivial⟩) ?_
  refine cg (sp_load ty25 (od rfl)) ?_
  refine cg (sp_fieldAddr fd25_2 (od rfl)) ?_
  refine cg (sp_load ty3 (od rfl)) ?_
  refine cg (sp_sub (od rfl) (odi)) ?_
  refine cg (sp_call en39 (f39_ok e_24) ⟨od rfl, odi, od rfl, odb, trivial⟩) ?_
  refine cg (sp_assign (od rfl)) ?_
  refine cg (sp_assign (od rfl)) ?_
  refine cg (sp_assign (od rfl)) ?_
  refine sn fun a w hS => ?_
  refine et ?_
  refine ws ?_
  refine ws ?_
  refine st_reg mixed (by kernel_rfl) hS ?_
  refine mv rfl ?_
  refine mv rfl ?_
  refine mv rfl ?_
  refine cg (sp_buildSlice [.tmp 114, .tmp 115, .tmp 116] ([v_19, v_21, v_23] : List (List Int)) sl22 ze26 rfl rfl rfl rfl ⟨od rfl, od rfl, od rfl, trivial⟩) ?_
  refine cg (sp_len Tryz.underlying22 (od rfl)) ?_
  refine cg (sp_move (odi)) ?_
  refine sn fun a w hS => ?_
  refine et ?_
  refine wp_block ?_
  obtain ⟨o_28, e_29, hr_30⟩ := bind_some h
  refine c_loop (fun K a w => ∃ k i_25 s_27, K = k + 1 ∧ ForI _ _ _ o_28 k i_25 s_27 ∧ St 263 F0 [] [(1, isV (α := Int) p1), (2, isV (α := Int) p2), (3, isV (α := List Int) p3), (4, isA (α := S_api_Roster) p0), (9, isA (α := S_api_Turn) (v_7 : S_api_Turn)), (10, isA (α := S_api_Turn) (v_9 : S_api_Turn)), (11, isV (α := Bool) v_13.1), (13, isV (α := Bool) v_15.1), (15, isV (α := Bool) v_17.1), (17, isV (α := List Int) v_19), (18, isV (α := List Int) v_21), (19, isV (α := List Int) v_23), (117, isV (α := List (List Int)) ([v_19, v_21, v_23] : List (List Int))), (118, isV (α := Int) (([v_19, v_21, v_23] : List (List Int)).length : Int)), (119, isV (α := Int) i_25)] w0 a w) ?_ ?_ ⟨_, _, _, rfl, for_init e_29, hS.weak ⟨od rfl, od rfl, od rfl, od rfl, od rfl, od rfl, od rfl, od rfl, od rfl, od rfl, od rfl, od rfl, od rfl, od rfl, od rfl, trivial⟩⟩
  · rintro a w ⟨_, _, _, hk, _⟩; cases hk
  rintro K a w ⟨k_28, i_25, s_27, hk, hF_28, hS⟩
  obtain rfl := Nat.succ.inj hk
  refine ws ?_
  refine st_reg mixed (by kernel_rfl) hS ?_
  refine cg (sp_lss (od rfl) (od rfl)) ?_
  refine sn fun a w hS => ?_
  refine et ?_
  refine ws ?_
  refine st_cond hS rfl (fun hb => ?_) (fun hb => ?_)
  · refine wp_skip ?_
    refine et ?_
    obtain ⟨k_28, o, rfl, h, hN_28, hL_28, hw_28⟩ := for_more hF_28 hb
    refine ws ?_
    refine wp_block ?_
    refine ws ?_
    obtain ⟨v_31, e_32, h⟩ := bind_some h
    refine st_reg mixed (by kernel_rfl) hS ?_
    refine cg (sp_indexAddr sl22 (od rfl) (od rfl) e_32) ?_
    refine cg (sp_load ty26 (od rfl)) ?_
    refine cg (sp_assign (od rfl)) ?_
    refine sn fun a w hS => ?_
    refine et ?_
    refine ws ?_
    obtain ⟨v_33, e_34, h⟩ := bind_some h
    refine st_reg mixed (by kernel_rfl) hS ?_
    refine cg (sp_load ty25 (od rfl)) ?_
    refine mv rfl ?_
    refine cg (sp_call en40 (f40_ok e_34) ⟨od rfl, od rfl, trivial⟩) ?_
    refine mv rfl ?_
    refine cg (sp_extract (od rfl) rfl) ?_
    refine cg (sp_extract (od rfl) rfl) ?_
    refine cg (sp_assign (od rfl)) ?_
    refine cg (sp_assign (od rfl)) ?_
    refine sn fun a w hS => ?_
    refine et ?_
    refine ws ?_
    refine st_reg mixed (by kernel_rfl) hS ?_
    refine mv rfl ?_
    refine cg (sp_neq (od rfl) (odi)) ?_
    refine sn fun a w hS => ?_
    refine et ?_
    refine st_cond hS rfl (fun hb => ?_) (fun hb => ?_)
    · have h := ite_t hb h
      refine ws ?_
      refine st_reg mixed (by kernel_rfl) hS ?_
      refine cg (sp_assign (odb)) ?_
      refine sn fun a w hS => ?_
      refine et ?_
      refine wp_ret ?_
      refine exit_blockR ?_
      refine exit_thenR ?_
      cases h
      obtain rfl := hL_28 _ rfl
      have h := (elim_leave hr_30)
      refine exit_thenR ?_
      refine exit_blockR ?_
      refine exit_thenR ?_
      cases h
      exact st_ret hS (run_results1 Tryz.results6 a w) (hS.get rfl)
    have h := ite_f hb h
    refine wp_skip ?_
    refine exit_block ?_
    refine et ?_
    refine st_reg mixed (by kernel_rfl) hS ?_
    refine cg (sp_add (od rfl) (odi)) ?_
    refine mv rfl ?_
    refine sn fun a w hS => ?_
    cases h
    exact ⟨k_28, _, _, rfl, hN_28 _ rfl, hS.weak ⟨od rfl, od rfl, od rfl, od rfl, od rfl, od rfl, od rfl, od rfl, od rfl, od rfl, od rfl, od rfl, od rfl, od rfl, od (congrArg (fun z => some (isV (α := Int) z)) hw_28), trivial⟩⟩
  refine wp_exit ?_
  obtain rfl := for_done hF_28 hb
  have h := elim_again hr_30
  refine exit_thenE ?_
  refine exit_thenE ?_
  refine exit_here ?_
  refine et ?_
  refine ws ?_
  refine ws ?_
  obtain ⟨v_35, e_36, h⟩ := bind_some h
  obtain ⟨v_37, e_38, h⟩ := bind_some h
  refine st_reg mixed (by kernel_rfl) hS ?_
  refine mv rfl ?_
  refine mv rfl ?_
  refine cg (sp_fieldAddr fd45_1 (od rfl)) ?_
  refine cg (sp_load ty3 (od rfl)) ?_
  refine cg (sp_indexAddr sl26 (od rfl) (od rfl) e_36) ?_
  refine cg (sp_load ty3 (od rfl)) ?_
  refine cg (sp_fieldAddr fd45_2 (od rfl)) ?_
  refine cg (sp_load ty3 (od rfl)) ?_
  refine cg (sp_lss (od rfl) (od rfl)) ?_
  refine cg (sp_eqlB Tryz.underlying4 (od rfl) (od rfl)) ?_
  refine mv rfl ?_
  refine sc (sgF rfl fun hG => sp_move (od rfl)) ?_
  refine sc (sgF rfl fun hG => sp_move (od rfl)) ?_
  refine sc (sgF rfl fun hG => sp_fieldAddr fd45_3 (od rfl)) ?_
  refine sc (sgF rfl fun hG => sp_load ty3 (odw rfl hG)) ?_
  refine sc (sgF rfl fun hG => sp_indexAddr sl26 (odw rfl hG) (odw rfl hG) (guard_some e_38 hG)) ?_
  refine sc (sgF rfl fun hG => sp_load ty3 (odw rfl hG)) ?_
  refine sc (sgF rfl fun hG => sp_fieldAddr fd45_4 (od rfl)) ?_
  refine sc (sgF rfl fun hG => sp_load ty3 (odw rfl hG)) ?_
  refine sc (sgF rfl fun hG => sp_geq (odw rfl hG) (odw rfl hG)) ?_
  refine sc (sgF rfl fun hG => sp_eqlB Tryz.underlying4 (odw rfl hG) (odw rfl hG)) ?_
  refine cg (sp_pickOr (od rfl) fun hg => odw rfl (not_t hg)) ?_
  refine sn fun a w hS => ?_
  refine et ?_
  refine st_cond hS rfl (fun hb => ?_) (fun hb => ?_)
  · have h := ite_t hb h
    refine ws ?_
    refine st_reg mixed (by kernel_rfl) hS ?_
    refine cg (sp_assign (odb)) ?_
    refine sn fun a w hS => ?_
    refine et ?_
    refine wp_ret ?_
    refine exit_thenR ?_
    cases h
    exact st_ret hS (run_results1 Tryz.results6 a w) (hS.get rfl)
  have h := ite_f hb h
  refine wp_skip ?_
  refine et ?_
  refine ws ?_
  refine ws ?_
  obtain ⟨v_39, e_40, h⟩ := bind_some h
  refine st_reg mixed (by kernel_rfl) hS ?_
  refine mv rfl ?_
  refine mv rfl ?_
  refine cg (sp_neq (od rfl) (od rfl)) ?_
  refine mv rfl ?_
  refine sc (sgT rfl fun hG => sp_fieldAddr fd45_0 (od rfl)) ?_
  refine sc (sgT rfl fun hG => sp_load ty3 (odw rfl hG)) ?_
  refine sc (sgT rfl fun hG => sp_fieldAddr fd45_0 (od rfl)) ?_
  refine sc (sgT rfl fun hG => sp_load ty3 (odw rfl hG)) ?_
  refine sc (sgT rfl fun hG => sp_eql (odw rfl hG) (odw rfl hG)) ?_
  refine cg (sp_pickAnd (od rfl) fun hg => odw rfl hg) ?_
  refine mv rfl ?_
  refine sc (sgT rfl fun hG => sp_move (od rfl)) ?_
  refine sc (sgT rfl fun hG => sp_move (od rfl)) ?_
  refine sc (sgT rfl fun hG => sp_fieldAddr fd45_1 (od rfl)) ?_
  refine sc (sgT rfl fun hG => sp_load ty3 (odw rfl hG)) ?_
  refine sc (sgT rfl fun hG => sp_indexAddr sl26 (odw rfl hG) (odw rfl hG) (guard_some e_40 hG)) ?_
  refine sc (sgT rfl fun hG => sp_load ty3 (odw rfl hG)) ?_
  refine sc (sgT rfl fun hG => sp_fieldAddr fd45_2 (od rfl)) ?_
  refine sc (sgT rfl fun hG => sp_load ty3 (odw rfl hG)) ?_
  refine sc (sgT rfl fun hG => sp_lss (odw rfl hG) (odw rfl hG)) ?_
  refine sc (sgT rfl fun hG => sp_eqlB Tryz.underlying4 (odw rfl hG) (odw rfl hG)) ?_
  refine cg (sp_pickAnd (od rfl) fun hg => odw rfl hg) ?_
  refine mv rfl ?_
  refine sc (sgF rfl fun hG => sp_move (od rfl)) ?_
  refine sc (sgF rfl fun hG => sp_move (od rfl)) ?_
  refine sc (sgF rfl fun hG => sp_eql (odw rfl hG) (odw rfl hG)) ?_
  refine sc (sgF rfl fun hG => sp_move (odw rfl hG)) ?_
  refine sc (sgwF rfl fun hG => sp_fieldAddr fd45_0 (od rfl)) ?_
  refine sc (sgwF rfl fun hG => sp_load ty3 (odw rfl hG)) ?_
  refine sc (sgwF rfl fun hG => sp_fieldAddr fd45_0 (od rfl)) ?_
  refine sc (sgwF rfl fun hG => sp_load ty3 (odw rfl hG)) ?_
  refine sc (sgwF rfl fun hG => sp_neq (odw rfl hG) (odw rfl hG)) ?_
  refine sc (sgF rfl fun hG => sp_pickOr (odw rfl hG) fun hg => odw rfl (and_mk hG (not_t hg))) ?_
  refine sc (sgF rfl fun hG => sp_move (odw rfl hG)) ?_
  refine sc (sgwT rfl fun hG => sp_move (od rfl)) ?_
  refine sc (sgF rfl fun hG => sp_pickAnd (odw rfl hG) fun hg => odw rfl (and_mk hG hg)) ?_
  refine cg (sp_pickOr (od rfl) fun hg => odw rfl (not_t hg)) ?_
  refine sn fun a w hS => ?_
  refine et ?_
  refine st_cond hS rfl (fun hb => ?_) (fun hb => ?_)
  · have h := ite_t hb h
    refine ws ?_
    refine st_reg mixed (by kernel_rfl) hS ?_
    refine cg (sp_assign (odb)) ?_
    refine sn fun a w hS => ?_
    refine et ?_
    refine wp_ret ?_
    refine exit_thenR ?_
    cases h
    exact st_ret hS (run_results1 Tryz.results6 a w) (hS.get rfl)
  have h := ite_f hb h
  refine wp_skip ?_
  refine et ?_
  refine ws ?_
  refine ws ?_
  obtain ⟨v_41, e_42, h⟩ := bind_some h
  refine st_reg mixed (by kernel_rfl) hS ?_
  refine cg (sp_load ty25 (od rfl)) ?_
  refine mv rfl ?_
  refine cg (sp_call en40 (f40_ok e_42) ⟨od rfl, od rfl, trivial⟩) ?_
  refine mv rfl ?_
  refine cg (sp_extract (od rfl) rfl) ?_
  refine cg (sp_extract (od rfl) rfl) ?_
  refine cg (sp_assign (od rfl)) ?_
  refine cg (sp_assign (od rfl)) ?_
  refine sn fun a w hS => ?_
  refine et ?_
  refine ws ?_
  refine st_reg mixed (by kernel_rfl) hS ?_
  refine mv rfl ?_
  refine cg (sp_neq (od rfl) (odi)) ?_
  refine sn fun a w hS => ?_
  refine et ?_
  refine st_cond hS rfl (fun hb => ?_) (fun hb => ?_)
  · have h := ite_t hb h
    refine ws ?_
    refine st_reg mixed (by kernel_rfl) hS ?_
    refine cg (sp_assign (odb)) ?_
    refine sn fun a w hS => ?_
    refine et ?_
    refine wp_ret ?_
    refine exit_thenR ?_
    cases h
    exact st_ret hS (run_results1 Tryz.results6 a w) (hS.get rfl)
  have h := ite_f hb h
  refine wp_skip ?_
  refine et ?_
  refine ws ?_
  obtain ⟨v_43, e_44, h⟩ := bind_some h
  obtain ⟨v_45, e_46, h⟩ := bind_some h
  obtain ⟨v_47, e_48, h⟩ := bind_some h
  obtain ⟨v_49, e_50, h⟩ := bind_some h
  obtain ⟨v_51, e_52, h⟩ := bind_some h
  obtain ⟨v_53, e_54, h⟩ := bind_some h
  refine st_reg mixed (by kernel_rfl) hS ?_
  refine mv rfl ?_
  refine mv rfl ?_
  refine sc (sgT rfl fun hG => sp_move (od rfl)) ?_
  refine sc (sgT rfl fun hG => sp_indexAddr sl26 (odw rfl hG) (odi) (guard_some e_44 hG)) ?_
  refine sc (sgT rfl fun hG => sp_load ty3 (odw rfl hG)) ?_
  refine sc (sgT rfl fun hG => sp_fieldAddr fd25_1 (od rfl)) ?_
  refine sc (sgT rfl fun hG => sp_load ty3 (odw rfl hG)) ?_
  refine sc (sgT rfl fun hG => sp_geq (odw rfl hG) (odw rfl hG)) ?_
  refine cg (sp_pickAnd (od rfl) fun hg => odw rfl hg) ?_
  refine mv rfl ?_
  refine sc (sgT rfl fun hG => sp_move (od rfl)) ?_
  refine sc (sgT rfl fun hG => sp_fieldAddr fd45_1 (od rfl)) ?_
  refine sc (sgT rfl fun hG => sp_load ty3 (odw rfl hG)) ?_
  refine sc (sgT rfl fun hG => sp_indexAddr sl26 (odw rfl hG) (odw rfl hG) (guard_some e_46 hG)) ?_
  refine sc (sgT rfl fun hG => sp_load ty3 (odw rfl hG)) ?_
  refine sc (sgT rfl fun hG => sp_fieldAddr fd45_2 (od rfl)) ?_
  refine sc (sgT rfl fun hG => sp_load ty3 (odw rfl hG)) ?_
  refine sc (sgT rfl fun hG => sp_lss (odw rfl hG) (odw rfl hG)) ?_
  refine cg (sp_pickAnd (od rfl) fun hg => odw rfl hg) ?_
  refine mv rfl ?_
  refine sc (sgF rfl fun hG => sp_move (od rfl)) ?_
  refine sc (sgF rfl fun hG => sp_move (odw rfl hG)) ?_
  refine sc (sgwT rfl fun hG => sp_move (od rfl)) ?_
  refine sc (sgwT rfl fun hG => sp_indexAddr sl26 (odw rfl hG) (odi) (guard_some e_48 hG)) ?_
  refine sc (sgwT rfl fun hG => sp_load ty3 (odw rfl hG)) ?_
  refine sc (sgwT rfl fun hG => sp_fieldAddr fd25_2 (od rfl)) ?_
  refine sc (sgwT rfl fun hG => sp_load ty3 (odw rfl hG)) ?_
  refine sc (sgwT rfl fun hG => sp_lss (odw rfl hG) (odw rfl hG)) ?_
  refine sc (sgF rfl fun hG => sp_pickAnd (odw rfl hG) fun hg => odw rfl (and_mk hG hg)) ?_
  refine sc (sgF rfl fun hG => sp_move (odw rfl hG)) ?_
  refine sc (sgwT rfl fun hG => sp_move (od rfl)) ?_
  refine sc (sgwT rfl fun hG => sp_fieldAddr fd45_3 (od rfl)) ?_
  refine sc (sgwT rfl fun hG => sp_load ty3 (odw rfl hG)) ?_
  refine sc (sgwT rfl fun hG => sp_indexAddr sl26 (odw rfl hG) (odw rfl hG) (guard_some e_50 hG)) ?_
  refine sc (sgwT rfl fun hG => sp_load ty3 (odw rfl hG)) ?_
  refine sc (sgwT rfl fun hG => sp_fieldAddr fd45_4 (od rfl)) ?_
  refine sc (sgwT rfl fun hG => sp_load ty3 (odw rfl hG)) ?_
  refine sc (sgwT rfl fun hG => sp_geq (odw rfl hG) (odw rfl hG)) ?_
  refine sc (sgF rfl fun hG => sp_pickAnd (odw rfl hG) fun hg => odw rfl (and_mk hG hg)) ?_
  refine cg (sp_pickOr (od rfl) fun hg => odw rfl (not_t hg)) ?_
  refine mv rfl ?_
  refine sc (sgF rfl fun hG => sp_move (od rfl)) ?_
  refine sc (sgF rfl fun hG => sp_move (odw rfl hG)) ?_
  refine sc (sgwT rfl fun hG => sp_move (od rfl)) ?_
  refine sc (sgwT rfl fun hG => sp_fieldAddr fd45_3 (od rfl)) ?_
  refine sc (sgwT rfl fun hG => sp_load ty3 (odw rfl hG)) ?_
  refine sc (sgwT rfl fun hG => sp_indexAddr sl26 (odw rfl hG) (odw rfl hG) (guard_some e_52 hG)) ?_
  refine sc (sgwT rfl fun hG => sp_load ty3 (odw rfl hG)) ?_
  refine sc (sgwT rfl fun hG => sp_fieldAddr fd45_4 (od rfl)) ?_
  refine sc (sgwT rfl fun hG => sp_load ty3 (odw rfl hG)) ?_
  refine sc (sgwT rfl fun hG => sp_geq (odw rfl hG) (odw rfl hG)) ?_
  refine sc (sgF rfl fun hG => sp_pickAnd (odw rfl hG) fun hg => odw rfl (and_mk hG hg)) ?_
  refine sc (sgF rfl fun hG => sp_move (odw rfl hG)) ?_
  refine sc (sgwT rfl fun hG => sp_move (od rfl)) ?_
  refine sc (sgwT rfl fun hG => sp_fieldAddr fd45_1 (od rfl)) ?_
  refine sc (sgwT rfl fun hG => sp_load ty3 (odw rfl hG)) ?_
  refine sc (sgwT rfl fun hG => sp_indexAddr sl26 (odw rfl hG) (odw rfl hG) (guard_some e_54 hG)) ?_
  refine sc (sgwT rfl fun hG => sp_load ty3 (odw rfl hG)) ?_
  refine sc (sgwT rfl fun hG => sp_fieldAddr fd45_2 (od rfl)) ?_
  refine sc (sgwT rfl fun hG => sp_load ty3 (odw rfl hG)) ?_
  refine sc (sgwT rfl fun hG => sp_lss (odw rfl hG) (odw rfl hG)) ?_
  refine sc (sgF rfl fun hG => sp_pickAnd (odw rfl hG) fun hg => odw rfl (and_mk hG hg)) ?_
  refine cg (sp_pickOr (od rfl) fun hg => odw rfl (not_t hg)) ?_
  refine cg (sp_not (od rfl)) ?_
  refine cg (sp_assign (od rfl)) ?_
  refine sn fun a w hS => ?_
  refine et ?_
  refine wp_ret ?_
  cases h
  exact st_ret hS (run_results1 Tryz.results6 a w) (hS.get rfl)

end Go.Proofs.YthogdhepjcomjaaGreatDoor
