/-
  What is proved: each Go function named here returns what its model tells, and changes nothing that was there; where the model tells something.
-/
import Derived.Test.YtjlagmcdoobimaaGreatWalkK0
import Derived.Test.YtjlagmcdoobimaaGreatGivenV
import Derived.Test.YtjlagmcdoobimaaGreatModelC
set_option linter.unusedVariables false
set_option maxRecDepth 100000
namespace Go.Proofs.YtjlagmcdoobimaaGreat
open Go Go.RowKit Go.Proofs.YtjlagmcdoobimaaGreat.Wh

theorem f6_ok {p0 : S_api_Market} {p1 : List Int} {r : (List (List Int)) × Int} (h : M.f6 p0 p1 = some r) : CallOK Tryz.prog 6 [isV p0, isV p1] (isTup [isV r.1, isV r.2]) := by
  unfold M.f6 at h
  refine callS_of Tryz.func6 rfl Tryz.ntmps6 rfl fun F0 w0 a hS => ?_
  refine ws ?_
  refine st_reg mixed (by kernel_rfl) hS ?_
  refine cg (sp_box (od rfl)) ?_
  refine cg (sp_assign (odnil (α := List Int))) ?_
  refine cg (sp_assign (odi)) ?_
  refine sn fun a w hS => ?_
  refine et ?_
  refine ws ?_
  refine ws ?_
  obtain ⟨v_1, e_2, h⟩ := bind_some h
  refine st_reg mixed (by kernel_rfl) hS ?_
  refine cg (sp_load ty24 (od rfl)) ?_
  refine mv rfl ?_
  refine cg (bd74_ ) ?_
  refine cg (sp_call en32 (f32_ok e_2) ⟨od rfl, od rfl, od rfl, trivial⟩) ?_
  refine cg (sp_assign (od rfl)) ?_
  refine sn fun a w hS => ?_
  refine et ?_
  refine ws ?_
  refine st_reg mixed (by kernel_rfl) hS ?_
  refine mv rfl ?_
  refine cg (sp_neq (od rfl) (odi)) ?_
  refine sn fun a w hS => ?_
  refine et ?_
  refine st_cond hS rfl (fun hb => ?_) (fun hb => ?_)
  · have h := ite_t hb h
    refine ws ?_
    refine st_reg mixed (by kernel_rfl) hS ?_
    refine mv rfl ?_
    refine cg (sp_assign (odnil (α := List Int))) ?_
    refine cg (sp_assign (od rfl)) ?_
    refine sn fun a w hS => ?_
    refine et ?_
    refine wp_ret ?_
    refine exit_thenR ?_
    cases h
    exact st_ret hS (run_results2 Tryz.results6 a w) (⟨_, rfl, hS.get rfl, hS.get rfl, trivial⟩)
  have h := ite_f hb h
  refine wp_skip ?_
  refine et ?_
  refine ws ?_
  obtain ⟨v_3, e_4, h⟩ := bind_some h
  obtain ⟨v_5, e_6, h⟩ := bind_some h
  refine st_reg mixed (by kernel_rfl) hS ?_
  refine cg (sp_load ty24 (od rfl)) ?_
  refine mv rfl ?_
  refine cg (sp_call en34 (f34_ok e_4) ⟨od rfl, trivial⟩) ?_
  refine cg (sp_call en33 (f33_ok e_6) ⟨od rfl, od rfl, trivial⟩) ?_
  refine cg (sp_assign (od rfl)) ?_
  refine sn fun a w hS => ?_
  refine et ?_
  refine ws ?_
  refine st_reg mixed (by kernel_rfl) hS ?_
  refine cg (sp_assign (φ := Pr.is (.slice none 0 0)) (odc fun _ => rfl)) ?_
  refine sn fun a w hS => ?_
  have hS := st_nil (α := List Int) 25 hS
  have hS : St _ F0 [Item.sl (α := List Int) 25 (.slice none 0 0) ([] : List (List Int))] _ w0 _ _ := hS
  refine et ?_
  refine ws ?_
  refine ws ?_
  refine st_reg mixed (by kernel_rfl) hS ?_
  refine cg (sp_fieldAddr fd24_0 (od rfl)) ?_
  refine cg (sp_load ty3 (od rfl)) ?_
  refine cg (sp_move (odi)) ?_
  refine sn fun a w hS => ?_
  refine et ?_
  refine wp_block ?_
  obtain ⟨o_10, e_11, hr_12⟩ := bind_some h
  refine c_loop (fun K a w => ∃ k i_7 s_9, ∃ u_13 : Value, K = k + 1 ∧ ForT _ _ _ o_10 k i_7 s_9 ∧ St 61 F0 [Item.sl (α := List Int) 25 u_13 s_9] [(2, isA (α := S_api_Market) p0), (7, isV (α := List (List Int)) v_5), (8, Pr.is u_13), (24, isV (α := Int) p0.1), (25, isV (α := Int) i_7)] w0 a w) ?_ ?_ ⟨_, _, _, (.slice none 0 0), rfl, fors_init e_11, hS.weak ⟨od rfl, od rfl, od rfl, od rfl, od rfl, trivial⟩⟩
  · rintro a w ⟨_, _, _, _, hk, _⟩; cases hk
  rintro K a w ⟨k_10, i_7, s_9, u_13, hk, hF_10, hS⟩
  obtain rfl := Nat.succ.inj hk
  refine ws ?_
  refine st_reg mixed (by kernel_rfl) hS ?_
  refine cg (sp_lss (od rfl) (od rfl)) ?_
  refine sn fun a w hS => ?_
  refine et ?_
  refine ws ?_
  refine st_cond hS rfl (fun hb => ?_) (fun hb => ?_)
  · refine wp_skip ?_
    refine et ?_
    obtain ⟨k_10, s', rfl, h, hF_10, hw_10⟩ := fors_more hF_10 hb
    refine ws ?_
    refine wp_block ?_
    refine ws ?_
    refine st_reg mixed (by kernel_rfl) hS ?_
    refine mv rfl ?_
    refine cg (sp_assign (od rfl)) ?_
    refine sn fun a w hS => ?_
    refine et ?_
    refine ws ?_
    refine st_reg mixed (by kernel_rfl) hS ?_
    refine cg (sp_assign (φ := Pr.is (.slice none 0 0)) (odc fun _ => rfl)) ?_
    refine sn fun a w hS => ?_
    have hS := st_nil (α := Int) 3 hS
    have hS : St _ F0 [Item.sl (α := List Int) 25 u_13 s_9, Item.sl (α := Int) 3 (.slice none 0 0) ([] : List Int)] _ w0 _ _ := hS
    refine et ?_
    refine ws ?_
    refine ws ?_
    refine st_reg mixed (by kernel_rfl) hS ?_
    refine cg (sp_fieldAddr fd24_0 (od rfl)) ?_
    refine cg (sp_load ty3 (od rfl)) ?_
    refine cg (sp_move (odi)) ?_
    refine sn fun a w hS => ?_
    refine et ?_
    refine wp_block ?_
    obtain ⟨o_17, e_18, hr_19⟩ := bind_some h
    refine c_loop (fun K a w => ∃ k i_14 s_16, ∃ u_20 : Value, K = k + 1 ∧ ForT _ _ _ o_17 k i_14 s_16 ∧ St 61 F0 [Item.sl (α := List Int) 25 u_13 s_9, Item.sl (α := Int) 3 u_20 s_16] [(2, isA (α := S_api_Market) p0), (7, isV (α := List (List Int)) v_5), (8, Pr.is u_13), (9, isV (α := Int) i_7), (10, Pr.is u_20), (24, isV (α := Int) p0.1), (25, isV (α := Int) i_7), (29, isV (α := Int) p0.1), (30, isV (α := Int) i_14)] w0 a w) ?_ ?_ ⟨_, _, _, (.slice none 0 0), rfl, fors_init e_18, hS.weak ⟨od rfl, od rfl, od rfl, od rfl, od rfl, od rfl, od rfl, od rfl, od rfl, trivial⟩⟩
    · rintro a w ⟨_, _, _, _, hk, _⟩; cases hk
    rintro K a w ⟨k_17, i_14, s_16, u_20, hk, hF_17, hS⟩
    obtain rfl := Nat.succ.inj hk
    refine ws ?_
    refine st_reg mixed (by kernel_rfl) hS ?_
    refine cg (sp_lss (od rfl) (od rfl)) ?_
    refine sn fun a w hS => ?_
    refine et ?_
    refine ws ?_
    refine st_cond hS rfl (fun hb => ?_) (fun hb => ?_)
    · refine wp_skip ?_
      refine et ?_
      obtain ⟨k_17, s', rfl, h, hF_17, hw_17⟩ := fors_more hF_17 hb
      refine ws ?_
      refine wp_block ?_
      refine ws ?_
      refine st_reg mixed (by kernel_rfl) hS ?_
      refine mv rfl ?_
      refine cg (sp_assign (od rfl)) ?_
      refine sn fun a w hS => ?_
      refine et ?_
      refine ws ?_
      obtain ⟨v_21, e_22, h⟩ := bind_some h
      obtain ⟨v_23, e_24, h⟩ := bind_some h
      refine st_reg mixed (by kernel_rfl) hS ?_
      refine mv rfl ?_
      refine mv rfl ?_
      refine cg (sp_indexAddr sl75 (od rfl) (od rfl) e_22) ?_
      refine cg (sp_load ty25 (od rfl)) ?_
      refine mv rfl ?_
      refine cg (sp_indexAddr sl25 (od rfl) (od rfl) e_24) ?_
      refine cg (sp_load ty3 (od rfl)) ?_
      refine cg (sp_geq (od rfl) (odi)) ?_
      refine sn fun a w hS => ?_
      refine et ?_
      obtain ⟨y_26, hj_25, h⟩ := bind_some h
      refine wp_mono (Q := fun e a w => e = Exit.normal ∧ ∃ u_27 : Value, St 61 F0 [Item.sl (α := List Int) 25 u_13 s_9, Item.sl (α := Int) 3 u_27 y_26] [(2, isA (α := S_api_Market) p0), (7, isV (α := List (List Int)) v_5), (8, Pr.is u_13), (9, isV (α := Int) i_7), (10, Pr.is u_27), (24, isV (α := Int) p0.1), (25, isV (α := Int) i_7), (29, isV (α := Int) p0.1), (30, isV (α := Int) i_14)] w0 a w) ?_ ?_
      · refine st_cond hS rfl (fun hb => ?_) (fun hb => ?_)
        · have h := ite_t hb hj_25
          obtain ⟨z_28, e_29, h⟩ := bind_some h
          refine l_start ?_
          refine s_c hS (sg (sp_move (od rfl))) rfl fun a w hS hM => ?_
          refine s_c hS (sg (sp_buildSlice [.const (.int .i64 (-1))] ([(-1)] : List Int) sl25 ze3 rfl rfl rfl rfl ⟨odi, trivial⟩)) rfl fun a w hS hM => ?_
          refine s_append (k := 1) (Δ := [(2, isA (α := S_api_Market) p0), (7, isV (α := List (List Int)) v_5), (8, Pr.is u_13), (9, isV (α := Int) i_7), (24, isV (α := Int) p0.1), (25, isV (α := Int) i_7), (29, isV (α := Int) p0.1), (30, isV (α := Int) i_14), (41, Pr.is u_20), (42, isV (α := List Int) ([(-1)] : List Int))]) sl25 ze3 hS rfl ⟨od rfl, od rfl, od rfl, od rfl, od rfl, od rfl, od rfl, od rfl, od rfl, od rfl, trivial⟩ ⟨fun _ _ _ _ h => h, fun _ _ _ _ h => h, fun _ _ _ _ h => h, fun _ _ _ _ h => h, fun _ _ _ _ h => h, fun _ _ _ _ h => h, fun _ _ _ _ h => h, fun _ _ _ _ h => h, fun _ _ _ _ h => h, fun _ _ _ _ h => h, trivial⟩ (od rfl) (od rfl) e_29 rfl fun a w u_30 hS hM => ?_
          have hS : St _ F0 [Item.sl (α := List Int) 25 u_13 s_9, Item.sl (α := Int) 3 u_30 z_28] _ w0 _ _ := hS
          refine s_c hS (sg (sp_assign (od rfl))) rfl fun a w hS hM => ?_
          refine l_end ?_
          cases h
          exact ⟨rfl, u_30, hS.weak ⟨od rfl, od rfl, od rfl, od rfl, od rfl, od rfl, od rfl, od rfl, od rfl, trivial⟩⟩
        have h := ite_f hb hj_25
        obtain ⟨v_31, e_32, h⟩ := bind_some h
        obtain ⟨v_33, e_34, h⟩ := bind_some h
        obtain ⟨z_35, e_36, h⟩ := bind_some h
        refine l_start ?_
        refine s_c hS (sg (sp_move (od rfl))) rfl fun a w hS hM => ?_
        refine s_c hS (sg (sp_move (od rfl))) rfl fun a w hS hM => ?_
        refine s_c hS (sg (sp_move (od rfl))) rfl fun a w hS hM => ?_
        refine s_c hS (sg (sp_indexAddr sl75 (od rfl) (od rfl) e_32)) rfl fun a w hS hM => ?_
        refine s_c hS (sg (sp_load ty25 (od rfl))) rfl fun a w hS hM => ?_
        refine s_c hS (sg (sp_move (od rfl))) rfl fun a w hS hM => ?_
        refine s_c hS (sg (sp_indexAddr sl25 (od rfl) (od rfl) e_34)) rfl fun a w hS hM => ?_
        refine s_c hS (sg (sp_load ty3 (od rfl))) rfl fun a w hS hM => ?_
        refine s_c hS (sg (sp_buildSlice [.tmp 51] ([v_33] : List Int) sl25 ze3 rfl rfl rfl rfl ⟨od rfl, trivial⟩)) rfl fun a w hS hM => ?_
        refine s_append (k := 1) (Δ := [(2, isA (α := S_api_Market) p0), (7, isV (α := List (List Int)) v_5), (8, Pr.is u_13), (9, isV (α := Int) i_7), (24, isV (α := Int) p0.1), (25, isV (α := Int) i_7), (29, isV (α := Int) p0.1), (30, isV (α := Int) i_14), (44, Pr.is u_20), (52, isV (α := List Int) ([v_33] : List Int))]) sl25 ze3 hS rfl ⟨od rfl, od rfl, od rfl, od rfl, od rfl, od rfl, od rfl, od rfl, od rfl, od rfl, trivial⟩ ⟨fun _ _ _ _ h => h, fun _ _ _ _ h => h, fun _ _ _ _ h => h, fun _ _ _ _ h => h, fun _ _ _ _ h => h, fun _ _ _ _ h => h, fun _ _ _ _ h => h, fun _ _ _ _ h => h, fun _ _ _ _ h => h, fun _ _ _ _ h => h, trivial⟩ (od rfl) (od rfl) e_36 rfl fun a w u_37 hS hM => ?_
        have hS : St _ F0 [Item.sl (α := List Int) 25 u_13 s_9, Item.sl (α := Int) 3 u_37 z_35] _ w0 _ _ := hS
        refine s_c hS (sg (sp_assign (od rfl))) rfl fun a w hS hM => ?_
        refine l_end ?_
        cases h
        exact ⟨rfl, u_37, hS.weak ⟨od rfl, od rfl, od rfl, od rfl, od rfl, od rfl, od rfl, od rfl, od rfl, trivial⟩⟩
      rintro e a w ⟨rfl, u_27, hS⟩
      refine exit_block ?_
      refine et ?_
      refine st_reg mixed (by kernel_rfl) hS ?_
      refine cg (sp_add (od rfl) (odi)) ?_
      refine mv rfl ?_
      refine sn fun a w hS => ?_
      cases h
      exact ⟨k_17, _, _, u_27, rfl, hF_17, hS.weak ⟨od rfl, od rfl, od rfl, od rfl, od rfl, od rfl, od rfl, od rfl, od (congrArg (fun z => some (isV (α := Int) z)) hw_17), trivial⟩⟩
    refine wp_exit ?_
    obtain rfl := (fors_done hF_17 hb).symm
    have h := hr_19
    refine exit_thenE ?_
    refine exit_thenE ?_
    refine exit_here ?_
    refine et ?_
    have hS := st_freeze 1 10 hS rfl rfl
    obtain ⟨z_38, e_39, h⟩ := bind_some h
    refine l_start ?_
    refine s_c hS (sg (sp_move (od rfl))) rfl fun a w hS hM => ?_
    refine s_c hS (sg (sp_move (od rfl))) rfl fun a w hS hM => ?_
    refine s_c hS (sg (sp_buildSlice [.tmp 56] ([s_16] : List (List Int)) sl28 ze25 rfl rfl rfl rfl ⟨od rfl, trivial⟩)) rfl fun a w hS hM => ?_
    refine s_append (k := 0) (Δ := [(2, isA (α := S_api_Market) p0), (7, isV (α := List (List Int)) v_5), (24, isV (α := Int) p0.1), (25, isV (α := Int) i_7), (55, Pr.is u_13), (57, isV (α := List (List Int)) ([s_16] : List (List Int)))]) sl28 ze25 hS rfl ⟨od rfl, od rfl, od rfl, od rfl, od rfl, od rfl, trivial⟩ ⟨fun _ _ _ _ h => h, fun _ _ _ _ h => h, fun _ _ _ _ h => h, fun _ _ _ _ h => h, fun _ _ _ _ h => h, fun _ _ _ _ h => h, trivial⟩ (od rfl) (od rfl) e_39 rfl fun a w u_40 hS hM => ?_
    have hS : St _ F0 [Item.sl (α := List Int) 25 u_40 z_38] _ w0 _ _ := hS
    refine s_c hS (sg (sp_assign (od rfl))) rfl fun a w hS hM => ?_
    refine l_end ?_
    refine exit_block ?_
    refine et ?_
    refine st_reg mixed (by kernel_rfl) hS ?_
    refine cg (sp_add (od rfl) (odi)) ?_
    refine mv rfl ?_
    refine sn fun a w hS => ?_
    cases h
    exact ⟨k_10, _, _, u_40, rfl, hF_10, hS.weak ⟨od rfl, od rfl, od rfl, od rfl, od (congrArg (fun z => some (isV (α := Int) z)) hw_10), trivial⟩⟩
  refine wp_exit ?_
  obtain rfl := (fors_done hF_10 hb).symm
  have h := hr_12
  refine exit_thenE ?_
  refine exit_thenE ?_
  refine exit_here ?_
  refine et ?_
  refine ws ?_
  refine st_reg mixed (by kernel_rfl) hS ?_
  refine mv rfl ?_
  refine cg (sp_assign (od rfl)) ?_
  refine cg (sp_assign (odi)) ?_
  refine sn fun a w hS => ?_
  refine et ?_
  refine wp_ret ?_
  have hS0 := hS
  have hS := st_freeze 0 4 hS rfl rfl
  have hS := st_also (t := 4) (q := 8) hS0 hS rfl rfl rfl
  have hS := st_also (t := 4) (q := 60) hS0 hS rfl rfl rfl
  cases h
  exact st_ret hS (run_results2 Tryz.results6 a w) (⟨_, rfl, hS.get rfl, hS.get rfl, trivial⟩)

theorem f8_ok {p0 : List Int} {c0 : S_api_Market} {r : Bool} (h : M.f8 p0 c0 = some r) : CallOK Tryz.prog 8 [isV p0, isA c0] (isV r) := by
  unfold M.f8 at h
  refine callS_of Tryz.func8 rfl Tryz.ntmps8 rfl fun F0 w0 a hS => ?_
  refine ws ?_
  refine st_reg mixed (by kernel_rfl) hS ?_
  refine cg (sp_assign (odb)) ?_
  refine sn fun a w hS => ?_
  refine et ?_
  refine ws ?_
  refine st_reg mixed (by kernel_rfl) hS ?_
  refine mv rfl ?_
  refine cg (sp_len Tryz.underlying25 (od rfl)) ?_
  refine cg (sp_fieldAddr fd24_0 (od rfl)) ?_
  refine cg (sp_load ty3 (od rfl)) ?_
  refine cg (sp_neq (od rfl) (od rfl)) ?_
  refine cg (sp_assign (od rfl)) ?_
  refine sn fun a w hS => ?_
  refine et ?_
  refine wp_ret ?_
  cases h
  exact st_ret hS (run_results1 Tryz.results8 a w) (hS.get rfl)

theorem f36_ok {p0 : List Int} {p1 : Int} {r : Int} (h : M.f36 p0 p1 = some r) : CallOK Tryz.prog 36 [isV p0, isV p1] (isV r) := by
  unfold M.f36 at h
  refine callS_of Tryz.func36 rfl Tryz.ntmps36 rfl fun F0 w0 a hS => ?_
  refine ws ?_
  refine st_reg mixed (by kernel_rfl) hS ?_
  refine cg (sp_assign (odi)) ?_
  refine sn fun a w hS => ?_
  refine et ?_
  refine ws ?_
  refine ws ?_
  refine st_reg mixed (by kernel_rfl) hS ?_
  refine mv rfl ?_
  refine cg (sp_len Tryz.underlying25 (od rfl)) ?_
  refine cg (sp_move (odi)) ?_
  refine sn fun a w hS => ?_
  refine et ?_
  refine wp_block ?_
  obtain ⟨o_4, e_5, hr_6⟩ := bind_some h
  refine c_loop (fun K a w => ∃ k i_1 s_3, K = k + 1 ∧ ForI _ _ _ o_4 k i_1 s_3 ∧ St 19 F0 [] [(0, isV (α := List Int) p0), (1, isV (α := Int) p1), (7, isV (α := Int) (p0.length : Int)), (8, isV (α := Int) i_1)] w0 a w) ?_ ?_ ⟨_, _, _, rfl, for_init e_5, hS.weak ⟨od rfl, od rfl, od rfl, od rfl, trivial⟩⟩
  · rintro a w ⟨_, _, _, hk, _⟩; cases hk
  rintro K a w ⟨k_4, i_1, s_3, hk, hF_4, hS⟩
  obtain rfl := Nat.succ.inj hk
  refine ws ?_
  refine st_reg mixed (by kernel_rfl) hS ?_
  refine cg (sp_lss (od rfl) (od rfl)) ?_
  refine sn fun a w hS => ?_
  refine et ?_
  refine ws ?_
  refine st_cond hS rfl (fun hb => ?_) (fun hb => ?_)
  · refine wp_skip ?_
    refine et ?_
    obtain ⟨k_4, o, rfl, h, hN_4, hL_4, hw_4⟩ := for_more hF_4 hb
    refine ws ?_
    refine wp_block ?_
    refine ws ?_
    refine st_reg mixed (by kernel_rfl) hS ?_
    refine mv rfl ?_
    refine cg (sp_assign (od rfl)) ?_
    refine sn fun a w hS => ?_
    refine et ?_
    refine ws ?_
    obtain ⟨v_7, e_8, h⟩ := bind_some h
    refine st_reg mixed (by kernel_rfl) hS ?_
    refine mv rfl ?_
    refine mv rfl ?_
    refine mv rfl ?_
    refine cg (sp_indexAddr sl25 (od rfl) (od rfl) e_8) ?_
    refine cg (sp_load ty3 (od rfl)) ?_
    refine cg (sp_eql (od rfl) (od rfl)) ?_
    refine sn fun a w hS => ?_
    refine et ?_
    refine st_cond hS rfl (fun hb => ?_) (fun hb => ?_)
    · have h := ite_t hb h
      refine ws ?_
      refine st_reg mixed (by kernel_rfl) hS ?_
      refine mv rfl ?_
      refine cg (sp_assign (od rfl)) ?_
      refine sn fun a w hS => ?_
      refine et ?_
      refine wp_ret ?_
      refine exit_blockR ?_
      refine exit_thenR ?_
      cases h
      obtain rfl := hL_4 _ rfl
      have h := (elim_leave hr_6)
      refine exit_thenR ?_
      refine exit_blockR ?_
      refine exit_thenR ?_
      cases h
      exact st_ret hS (run_results1 Tryz.results36 a w) (hS.get rfl)
    have h := ite_f hb h
    refine wp_skip ?_
    refine exit_block ?_
    refine et ?_
    refine st_reg mixed (by kernel_rfl) hS ?_
    refine cg (sp_add (od rfl) (odi)) ?_
    refine mv rfl ?_
    refine sn fun a w hS => ?_
    cases h
    exact ⟨k_4, _, _, rfl, hN_4 _ rfl, hS.weak ⟨od rfl, od rfl, od rfl, od (congrArg (fun z => some (isV (α := Int) z)) hw_4), trivial⟩⟩
  refine wp_exit ?_
  obtain rfl := for_done hF_4 hb
  have h := elim_again hr_6
  refine exit_thenE ?_
  refine exit_thenE ?_
  refine exit_here ?_
  refine et ?_
  refine ws ?_
  refine st_reg mixed (by kernel_rfl) hS ?_
  refine cg (sp_assign (odi)) ?_
  refine sn fun a w hS => ?_
  refine et ?_
  refine wp_ret ?_
  cases h
  exact st_ret hS (run_results1 Tryz.results36 a w) (hS.get rfl)

theorem f10_ok {p0 : List Int} {p1 : Int} {r : Bool} (h : M.f10 p0 p1 = some r) : CallOK Tryz.prog 10 [isV p0, isV p1] (isV r) := by
  unfold M.f10 at h
  refine callS_of Tryz.func10 rfl Tryz.ntmps10 rfl fun F0 w0 a hS => ?_
  refine ws ?_
  refine st_reg mixed (by kernel_rfl) hS ?_
  refine cg (sp_assign (odb)) ?_
  refine sn fun a w hS => ?_
  refine et ?_
  refine ws ?_
  obtain ⟨v_1, e_2, h⟩ := bind_some h
  refine st_reg mixed (by kernel_rfl) hS ?_
  refine mv rfl ?_
  refine mv rfl ?_
  refine cg (sp_call en36 (f36_ok e_2) ⟨od rfl, od rfl, trivial⟩) ?_
  refine cg (sp_geq (od rfl) (odi)) ?_
  refine cg (sp_assign (od rfl)) ?_
  refine sn fun a w hS => ?_
  refine et ?_
  refine wp_ret ?_
  cases h
  exact st_ret hS (run_results1 Tryz.results10 a w) (hS.get rfl)

theorem f3_ok {fuel : Nat} {p0 : S_api_Market} {p1 : List Int} {p2 : Int} {p3 : Int} {p4 : Int} {p5 : Int} {r : Bool} (h : M.f3 fuel p0 p1 p2 p3 p4 p5 = some r) : CallOK Tryz.prog 3 [isV p0, isV p1, isV p2, isV p3, isV p4, isV p5] (isV r) := by
  unfold M.f3 at h
  refine callS_of Tryz.func3 rfl Tryz.ntmps3 rfl fun F0 w0 a hS => ?_
  refine ws ?_
  refine st_reg mixed (by kernel_rfl) hS ?_
  refine cg (sp_box (od rfl)) ?_
  refine cg (sp_assign (odb)) ?_
  refine sn fun a w hS => ?_
  refine et ?_
  refine ws ?_
  refine ws ?_
  obtain ⟨v_1, e_2, h⟩ := bind_some h
  refine st_reg mixed (by kernel_rfl) hS ?_
  refine cg (sp_call en4 (f4_ok e_2) trivial) ?_
  refine cg (sp_not (od rfl)) ?_
  refine sn fun a w hS => ?_
  refine et ?_
  refine st_cond hS rfl (fun hb => ?_) (fun hb => ?_)
  · have h := ite_t hb h
    refine ws ?_
    refine st_reg mixed (by kernel_rfl) hS ?_
    refine cg (sp_assign (odb)) ?_
    refine sn fun a w hS => ?_
    refine et ?_
    refine wp_ret ?_
    refine exit_thenR ?_
    cases h
    exact st_ret hS (run_results1 Tryz.results3 a w) (hS.get rfl)
  have h := ite_f hb h
  refine wp_skip ?_
  refine et ?_
  refine ws ?_
  refine ws ?_
  obtain ⟨v_3, e_4, h⟩ := bind_some h
  refine st_reg mixed (by kernel_rfl) hS ?_
  refine cg (sp_load ty24 (od rfl)) ?_
  refine mv rfl ?_
  refine mv rfl ?_
  refine mv rfl ?_
  refine mv rfl ?_
  refine cg (sp_buildSlice [.tmp 27, .tmp 28, .tmp 29] ([p2, p3, p4] : List Int) sl25 ze3 rfl rfl rfl rfl ⟨od rfl, od rfl, od rfl, trivial⟩) ?_
  refine cg (sp_call en5 (f5_ok e_4) ⟨od rfl, od rfl, od rfl, trivial⟩) ?_
  refine cg (sp_not (od rfl)) ?_
  refine sn fun a w hS => ?_
  refine et ?_
  refine st_cond hS rfl (fun hb => ?_) (fun hb => ?_)
  · have h := ite_t hb h
    refine ws ?_
    refine st_reg mixed (by kernel_rfl) hS ?_
    refine cg (sp_assign (odb)) ?_
    refine sn fun a w hS => ?_
    refine et ?_
    refine wp_ret ?_
    refine exit_thenR ?_
    cases h
    exact st_ret hS (run_results1 Tryz.results3 a w) (hS.get rfl)
  have h := ite_f hb h
  refine wp_skip ?_
  refine et ?_
  refine ws ?_
  obtain ⟨v_5, e_6, h⟩ := bind_some h
  refine st_reg mixed (by kernel_rfl) hS ?_
  refine cg (sp_load ty24 (od rfl)) ?_
  refine mv rfl ?_
  refine cg (sp_call en6 (f6_ok e_6) ⟨od rfl, od rfl, trivial⟩) ?_
  refine mv rfl ?_
  refine cg (sp_extract (od rfl) rfl) ?_
  refine cg (sp_extract (od rfl) rfl) ?_
  refine cg (sp_assign (od rfl)) ?_
  refine cg (sp_assign (od rfl)) ?_
  refine sn fun a w hS => ?_
  refine et ?_
  refine ws ?_
  refine ws ?_
  obtain ⟨v_7, e_8, h⟩ := bind_some h
  refine st_reg mixed (by kernel_rfl) hS ?_
  refine mv rfl ?_
  refine cg (sp_neq (od rfl) (odi)) ?_
  refine mv rfl ?_
  refine sc (sgF rfl fun hG => sp_move (od rfl)) ?_
  refine sc (sgF rfl fun hG => sp_len Tryz.underlying28 (odw rfl hG)) ?_
  refine sc (sgF rfl fun hG => sp_fieldAddr fd24_0 (od rfl)) ?_
  refine sc (sgF rfl fun hG => sp_load ty3 (odw rfl hG)) ?_
  refine sc (sgF rfl fun hG => sp_neq (odw rfl hG) (odw rfl hG)) ?_
  refine cg (sp_pickOr (od rfl) fun hg => odw rfl (not_t hg)) ?_
  refine mv rfl ?_
  refine sc (sgF rfl fun hG => sp_move (od rfl)) ?_
  refine sc (sgF rfl fun hG => mk_fn33 (f := (fun x0 => M.f8 x0 p0)) (κs := [isA (α := S_api_Market) p0]) ⟨fun _ _ _ _ h => h, trivial⟩ en8 ⟨od rfl, trivial⟩ (fun _ _ h => f8_ok h)) ?_
  refine sc (sgF rfl fun hG => sp_call en7 (f7_ok (guard_some e_8 hG)) ⟨odw rfl hG, odw rfl hG, trivial⟩) ?_
  refine cg (sp_pickOr (od rfl) fun hg => odw rfl (not_t hg)) ?_
  refine sn fun a w hS => ?_
  refine et ?_
  refine st_cond hS rfl (fun hb => ?_) (fun hb => ?_)
  · have h := ite_t hb h
    refine ws ?_
    refine st_reg mixed (by kernel_rfl) hS ?_
    refine cg (sp_assign (odb)) ?_
    refine sn fun a w hS => ?_
    refine et ?_
    refine wp_ret ?_
    refine exit_thenR ?_
    cases h
    exact st_ret hS (run_results1 Tryz.results3 a w) (hS.get rfl)
  have h := ite_f hb h
  refine wp_skip ?_
  refine et ?_
  refine ws ?_
  obtain ⟨v_9, e_10, h⟩ := bind_some h
  refine st_reg mixed (by kernel_rfl) hS ?_
  refine cg (sp_load ty24 (od rfl)) ?_
  refine mv rfl ?_
  refine mv rfl ?_
  refine mv rfl ?_
  refine cg (sp_call en9 (f9_ok e_10) ⟨od rfl, od rfl, od rfl, od rfl, trivial⟩) ?_
  refine mv rfl ?_
  refine cg (sp_extract (od rfl) rfl) ?_
  refine cg (sp_extract (od rfl) rfl) ?_
  refine cg (sp_extract (od rfl) rfl) ?_
  refine cg (sp_assign (od rfl)) ?_
  refine cg (sp_assign (od rfl)) ?_
  refine cg (sp_assign (od rfl)) ?_
  refine sn fun a w hS => ?_
  refine et ?_
  refine ws ?_
  refine ws ?_
  obtain ⟨v_11, e_12, h⟩ := bind_some h
  obtain ⟨v_13, e_14, h⟩ := bind_some h
  obtain ⟨v_15, e_16, h⟩ := bind_some h
  obtain ⟨v_17, e_18, h⟩ := bind_some h
  obtain ⟨v_19, e_20, h⟩ := bind_some h
  obtain ⟨v_21, e_22, h⟩ := bind_some h
  obtain ⟨v_23, e_24, h⟩ := bind_some h
  obtain ⟨v_25, e_26, h⟩ := bind_some h
  obtain ⟨v_27, e_28, h⟩ := bind_some h
  obtain ⟨v_29, e_30, h⟩ := bind_some h
  obtain ⟨v_31, e_32, h⟩ := bind_some h
  obtain ⟨v_33, e_34, h⟩ := bind_some h
  obtain ⟨v_35, e_36, h⟩ := bind_some h
  obtain ⟨v_37, e_38, h⟩ := bind_some h
  obtain ⟨v_39, e_40, h⟩ := bind_some h
  obtain ⟨v_41, e_42, h⟩ := bind_some h
  obtain ⟨v_43, e_44, h⟩ := bind_some h
  obtain ⟨v_45, e_46, h⟩ := bind_some h
  obtain ⟨v_47, e_48, h⟩ := bind_some h
  obtain ⟨v_49, e_50, h⟩ := bind_some h
  obtain ⟨v_51, e_52, h⟩ := bind_some h
  obtain ⟨v_53, e_54, h⟩ := bind_some h
  refine st_reg mixed (by kernel_rfl) hS ?_
  refine mv rfl ?_
  refine cg (sp_neq (od rfl) (odi)) ?_
  refine mv rfl ?_
  refine sc (sgF rfl fun hG => sp_move (od rfl)) ?_
  refine sc (sgF rfl fun hG => sp_move (od rfl)) ?_
  refine sc (sgF rfl fun hG => sp_move (od rfl)) ?_
  refine sc (sgF rfl fun hG => sp_indexAddr sl28 (odw rfl hG) (odw rfl hG) (guard_some e_12 hG)) ?_
  refine sc (sgF rfl fun hG => sp_load ty25 (odw rfl hG)) ?_
  refine sc (sgF rfl fun hG => sp_move (od rfl)) ?_
  refine sc (sgF rfl fun hG => sp_indexAddr sl25 (odw rfl hG) (odw rfl hG) (guard_some e_14 hG)) ?_
  refine sc (sgF rfl fun hG => sp_load ty3 (odw rfl hG)) ?_
  refine sc (sgF rfl fun hG => sp_geq (odw rfl hG) (odi)) ?_
  refine sc (sgF rfl fun hG => sp_neqB Tryz.underlying4 (odw rfl hG) (odw rfl hG)) ?_
  refine cg (sp_pickOr (od rfl) fun hg => odw rfl (not_t hg)) ?_
  refine mv rfl ?_
  refine sc (sgF rfl fun hG => sp_move (od rfl)) ?_
  refine sc (sgF rfl fun hG => sp_move (odw rfl hG)) ?_
  refine sc (sgwT rfl fun hG => sp_move (od rfl)) ?_
  refine sc (sgwT rfl fun hG => sp_move (od rfl)) ?_
  refine sc (sgwT rfl fun hG => sp_move (od rfl)) ?_
  refine sc (sgwT rfl fun hG => sp_indexAddr sl28 (odw rfl hG) (odw rfl hG) (guard_some e_16 hG)) ?_
  refine sc (sgwT rfl fun hG => sp_load ty25 (odw rfl hG)) ?_
  refine sc (sgwT rfl fun hG => sp_move (od rfl)) ?_
  refine sc (sgwT rfl fun hG => sp_indexAddr sl25 (odw rfl hG) (odw rfl hG) (guard_some e_18 hG)) ?_
  refine sc (sgwT rfl fun hG => sp_load ty3 (odw rfl hG)) ?_
  refine sc (sgwT rfl fun hG => sp_neq (odw rfl hG) (odw rfl hG)) ?_
  refine sc (sgF rfl fun hG => sp_pickAnd (odw rfl hG) fun hg => odw rfl (and_mk hG hg)) ?_
  refine cg (sp_pickOr (od rfl) fun hg => odw rfl (not_t hg)) ?_
  refine mv rfl ?_
  refine sc (sgF rfl fun hG => sp_move (od rfl)) ?_
  refine sc (sgF rfl fun hG => sp_move (od rfl)) ?_
  refine sc (sgF rfl fun hG => sp_indexAddr sl28 (odw rfl hG) (odw rfl hG) (guard_some e_20 hG)) ?_
  refine sc (sgF rfl fun hG => sp_load ty25 (odw rfl hG)) ?_
  refine sc (sgF rfl fun hG => sp_move (od rfl)) ?_
  refine sc (sgF rfl fun hG => sp_indexAddr sl25 (odw rfl hG) (odw rfl hG) (guard_some e_22 hG)) ?_
  refine sc (sgF rfl fun hG => sp_load ty3 (odw rfl hG)) ?_
  refine sc (sgF rfl fun hG => sp_move (od rfl)) ?_
  refine sc (sgF rfl fun hG => sp_move (od rfl)) ?_
  refine sc (sgF rfl fun hG => sp_indexAddr sl28 (odw rfl hG) (odw rfl hG) (guard_some e_24 hG)) ?_
  refine sc (sgF rfl fun hG => sp_load ty25 (odw rfl hG)) ?_
  refine sc (sgF rfl fun hG => sp_move (od rfl)) ?_
  refine sc (sgF rfl fun hG => sp_indexAddr sl25 (odw rfl hG) (odw rfl hG) (guard_some e_26 hG)) ?_
  refine sc (sgF rfl fun hG => sp_load ty3 (odw rfl hG)) ?_
  refine sc (sgF rfl fun hG => sp_neq (odw rfl hG) (odw rfl hG)) ?_
  refine cg (sp_pickOr (od rfl) fun hg => odw rfl (not_t hg)) ?_
  refine mv rfl ?_
  refine sc (sgF rfl fun hG => sp_move (od rfl)) ?_
  refine sc (sgF rfl fun hG => sp_move (od rfl)) ?_
  refine sc (sgF rfl fun hG => sp_indexAddr sl28 (odw rfl hG) (odw rfl hG) (guard_some e_28 hG)) ?_
  refine sc (sgF rfl fun hG => sp_load ty25 (odw rfl hG)) ?_
  refine sc (sgF rfl fun hG => sp_move (od rfl)) ?_
  refine sc (sgF rfl fun hG => sp_indexAddr sl25 (odw rfl hG) (odw rfl hG) (guard_some e_30 hG)) ?_
  refine sc (sgF rfl fun hG => sp_load ty3 (odw rfl hG)) ?_
  refine sc (sgF rfl fun hG => sp_neq (odw rfl hG) (odi)) ?_
  refine cg (sp_pickOr (od rfl) fun hg => odw rfl (not_t hg)) ?_
  refine mv rfl ?_
  refine sc (sgF rfl fun hG => sp_move (od rfl)) ?_
  refine sc (sgF rfl fun hG => sp_move (od rfl)) ?_
  refine sc (sgF rfl fun hG => sp_indexAddr sl28 (odw rfl hG) (odw rfl hG) (guard_some e_32 hG)) ?_
  refine sc (sgF rfl fun hG => sp_load ty25 (odw rfl hG)) ?_
  refine sc (sgF rfl fun hG => sp_move (od rfl)) ?_
  refine sc (sgF rfl fun hG => sp_indexAddr sl25 (odw rfl hG) (odw rfl hG) (guard_some e_34 hG)) ?_
  refine sc (sgF rfl fun hG => sp_load ty3 (odw rfl hG)) ?_
  refine sc (sgF rfl fun hG => sp_geq (odw rfl hG) (odi)) ?_
  refine sc (sgF rfl fun hG => sp_move (odw rfl hG)) ?_
  refine sc (sgwT rfl fun hG => sp_move (od rfl)) ?_
  refine sc (sgwT rfl fun hG => sp_move (od rfl)) ?_
  refine sc (sgwT rfl fun hG => sp_indexAddr sl28 (odw rfl hG) (odw rfl hG) (guard_some e_36 hG)) ?_
  refine sc (sgwT rfl fun hG => sp_load ty25 (odw rfl hG)) ?_
  refine sc (sgwT rfl fun hG => sp_move (od rfl)) ?_
  refine sc (sgwT rfl fun hG => sp_indexAddr sl25 (odw rfl hG) (odw rfl hG) (guard_some e_38 hG)) ?_
  refine sc (sgwT rfl fun hG => sp_load ty3 (odw rfl hG)) ?_
  refine sc (sgwT rfl fun hG => sp_geq (odw rfl hG) (odi)) ?_
  refine sc (sgF rfl fun hG => sp_pickAnd (odw rfl hG) fun hg => odw rfl (and_mk hG hg)) ?_
  refine sc (sgF rfl fun hG => sp_move (odw rfl hG)) ?_
  refine sc (sgwT rfl fun hG => sp_move (od rfl)) ?_
  refine sc (sgwT rfl fun hG => sp_move (od rfl)) ?_
  refine sc (sgwT rfl fun hG => sp_indexAddr sl28 (odw rfl hG) (odw rfl hG) (guard_some e_40 hG)) ?_
  refine sc (sgwT rfl fun hG => sp_load ty25 (odw rfl hG)) ?_
  refine sc (sgwT rfl fun hG => sp_move (od rfl)) ?_
  refine sc (sgwT rfl fun hG => sp_indexAddr sl25 (odw rfl hG) (odw rfl hG) (guard_some e_42 hG)) ?_
  refine sc (sgwT rfl fun hG => sp_load ty3 (odw rfl hG)) ?_
  refine sc (sgwT rfl fun hG => sp_lss (odw rfl hG) (odi)) ?_
  refine sc (sgwT rfl fun hG => sp_move (odw rfl hG)) ?_
  refine sc (sgwF rfl fun hG => sp_move (od rfl)) ?_
  refine sc (sgwF rfl fun hG => sp_move (od rfl)) ?_
  refine sc (sgwF rfl fun hG => sp_indexAddr sl28 (odw rfl hG) (odw rfl hG) (guard_some e_44 hG)) ?_
  refine sc (sgwF rfl fun hG => sp_load ty25 (odw rfl hG)) ?_
  refine sc (sgwF rfl fun hG => sp_move (od rfl)) ?_
  refine sc (sgwF rfl fun hG => sp_indexAddr sl25 (odw rfl hG) (odw rfl hG) (guard_some e_46 hG)) ?_
  refine sc (sgwF rfl fun hG => sp_load ty3 (odw rfl hG)) ?_
  refine sc (sgwF rfl fun hG => sp_move (od rfl)) ?_
  refine sc (sgwF rfl fun hG => sp_move (od rfl)) ?_
  refine sc (sgwF rfl fun hG => sp_indexAddr sl28 (odw rfl hG) (odw rfl hG) (guard_some e_48 hG)) ?_
  refine sc (sgwF rfl fun hG => sp_load ty25 (odw rfl hG)) ?_
  refine sc (sgwF rfl fun hG => sp_move (od rfl)) ?_
  refine sc (sgwF rfl fun hG => sp_indexAddr sl25 (odw rfl hG) (odw rfl hG) (guard_some e_50 hG)) ?_
  refine sc (sgwF rfl fun hG => sp_load ty3 (odw rfl hG)) ?_
  refine sc (sgwF rfl fun hG => sp_move (od rfl)) ?_
  refine sc (sgwF rfl fun hG => sp_move (od rfl)) ?_
  refine sc (sgwF rfl fun hG => sp_indexAddr sl28 (odw rfl hG) (odw rfl hG) (guard_some e_52 hG)) ?_
  refine sc (sgwF rfl fun hG => sp_load ty25 (odw rfl hG)) ?_
  refine sc (sgwF rfl fun hG => sp_move (od rfl)) ?_
  refine sc (sgwF rfl fun hG => sp_indexAddr sl25 (odw rfl hG) (odw rfl hG) (guard_some e_54 hG)) ?_
  refine sc (sgwF rfl fun hG => sp_load ty3 (odw rfl hG)) ?_
  refine sc (sgwF rfl fun hG => sp_add (odw rfl hG) (odw rfl hG)) ?_
  refine sc (sgwF rfl fun hG => sp_gtr (odw rfl hG) (odw rfl hG)) ?_
  refine sc (sgwT rfl fun hG => sp_pickOr (odw rfl hG) fun hg => odw rfl (and_mk hG (not_t hg))) ?_
  refine sc (sgF rfl fun hG => sp_pickAnd (odw rfl hG) fun hg => odw rfl (and_mk hG hg)) ?_
  refine cg (sp_pickOr (od rfl) fun hg => odw rfl (not_t hg)) ?_
  refine sn fun a w hS => ?_
  refine et ?_
  refine st_cond hS rfl (fun hb => ?_) (fun hb => ?_)
  · have h := ite_t hb h
    refine ws ?_
    refine st_reg mixed (by kernel_rfl) hS ?_
    refine cg (sp_assign (odb)) ?_
    refine sn fun a w hS => ?_
    refine et ?_
    refine wp_ret ?_
    refine exit_thenR ?_
    cases h
    exact st_ret hS (run_results1 Tryz.results3 a w) (hS.get rfl)
  have h := ite_f hb h
  refine wp_skip ?_
  refine et ?_
  refine ws ?_
  refine ws ?_
  refine st_reg mixed (by kernel_rfl) hS ?_
  refine mv rfl ?_
  refine cg (sp_len Tryz.underlying25 (od rfl)) ?_
  refine cg (sp_move (odi)) ?_
  refine sn fun a w hS => ?_
  refine et ?_
  refine wp_block ?_
  obtain ⟨o_58, e_59, hr_60⟩ := bind_some h
  refine c_loop (fun K a w => ∃ k i_55 s_57, K = k + 1 ∧ ForI _ _ _ o_58 k i_55 s_57 ∧ St 252 F0 [] [(1, isV (α := List Int) p1), (2, isV (α := Int) p2), (3, isV (α := Int) p3), (5, isV (α := Int) p5), (6, isA (α := S_api_Market) p0), (13, isV (α := List (List Int)) v_5.1), (15, isV (α := Int) v_9.1), (16, isV (α := Bool) v_9.2.1), (172, isV (α := List Int) p1), (173, isV (α := Int) (p1.length : Int)), (174, isV (α := Int) i_55)] w0 a w) ?_ ?_ ⟨_, _, _, rfl, for_init e_59, hS.weak ⟨od rfl, od rfl, od rfl, od rfl, od rfl, od rfl, od rfl, od rfl, od rfl, od rfl, od rfl, trivial⟩⟩
  · rintro a w ⟨_, _, _, hk, _⟩; cases hk
  rintro K a w ⟨k_58, i_55, s_57, hk, hF_58, hS⟩
  obtain rfl := Nat.succ.inj hk
  refine ws ?_
  refine st_reg mixed (by kernel_rfl) hS ?_
  refine cg (sp_lss (od rfl) (od rfl)) ?_
  refine sn fun a w hS => ?_
  refine et ?_
  refine ws ?_
  refine st_cond hS rfl (fun hb => ?_) (fun hb => ?_)
  · refine wp_skip ?_
    refine et ?_
    obtain ⟨k_58, o, rfl, h, hN_58, hL_58, hw_58⟩ := for_more hF_58 hb
    refine ws ?_
    refine wp_block ?_
    refine ws ?_
    obtain ⟨v_61, e_62, h⟩ := bind_some h
    refine st_reg mixed (by kernel_rfl) hS ?_
    refine cg (sp_indexAddr sl25 (od rfl) (od rfl) e_62) ?_
    refine cg (sp_load ty3 (od rfl)) ?_
    refine cg (sp_assign (od rfl)) ?_
    refine sn fun a w hS => ?_
    refine et ?_
    refine ws ?_
    obtain ⟨v_63, e_64, h⟩ := bind_some h
    refine l_start ?_
    refine s_c hS (sg (sp_fieldAddr fd24_2 (od rfl))) rfl fun a w hS hM => ?_
    refine s_c hS (sg (sp_load ty22 (od rfl))) rfl fun a w hS hM => ?_
    refine s_c hS (sg (sp_move (od rfl))) rfl fun a w hS hM => ?_
    refine s_c hS (sg (sp_indexAddr sl22 (od rfl) (od rfl) e_64)) rfl fun a w hS hM => ?_
    refine s_c hS (sg (sp_load ty37 (od rfl))) rfl fun a w hS hM => ?_
    refine s_allocStore ze37 hS (od rfl) (fun k hk => by cases hk; rfl) rfl fun a w hS hM => ?_
    refine l_end ?_
    refine et ?_
    refine ws ?_
    obtain ⟨v_65, e_66, h⟩ := bind_some h
    obtain ⟨v_67, e_68, h⟩ := bind_some h
    obtain ⟨v_69, e_70, h⟩ := bind_some h
    obtain ⟨v_71, e_72, h⟩ := bind_some h
    refine st_reg mixed (by kernel_rfl) hS ?_
    refine mv rfl ?_
    refine cg (sp_fieldAddr fd37_0 (od rfl)) ?_
    refine cg (sp_load ty3 (od rfl)) ?_
    refine cg (sp_indexAddr sl28 (od rfl) (od rfl) e_66) ?_
    refine cg (sp_load ty25 (od rfl)) ?_
    refine cg (sp_fieldAddr fd37_1 (od rfl)) ?_
    refine cg (sp_load ty3 (od rfl)) ?_
    refine cg (sp_indexAddr sl25 (od rfl) (od rfl) e_68) ?_
    refine cg (sp_load ty3 (od rfl)) ?_
    refine cg (sp_lss (od rfl) (odi)) ?_
    refine mv rfl ?_
    refine sc (sgF rfl fun hG => sp_move (od rfl)) ?_
    refine sc (sgF rfl fun hG => sp_fieldAddr fd37_0 (od rfl)) ?_
    refine sc (sgF rfl fun hG => sp_load ty3 (odw rfl hG)) ?_
    refine sc (sgF rfl fun hG => sp_indexAddr sl28 (odw rfl hG) (odw rfl hG) (guard_some e_70 hG)) ?_
    refine sc (sgF rfl fun hG => sp_load ty25 (odw rfl hG)) ?_
    refine sc (sgF rfl fun hG => sp_fieldAddr fd37_1 (od rfl)) ?_
    refine sc (sgF rfl fun hG => sp_load ty3 (odw rfl hG)) ?_
    refine sc (sgF rfl fun hG => sp_indexAddr sl25 (odw rfl hG) (odw rfl hG) (guard_some e_72 hG)) ?_
    refine sc (sgF rfl fun hG => sp_load ty3 (odw rfl hG)) ?_
    refine sc (sgF rfl fun hG => sp_fieldAddr fd37_3 (od rfl)) ?_
    refine sc (sgF rfl fun hG => sp_load ty3 (odw rfl hG)) ?_
    refine sc (sgF rfl fun hG => sp_gtr (odw rfl hG) (odw rfl hG)) ?_
    refine cg (sp_pickOr (od rfl) fun hg => odw rfl (not_t hg)) ?_
    refine sn fun a w hS => ?_
    refine et ?_
    refine st_cond hS rfl (fun hb => ?_) (fun hb => ?_)
    · have h := ite_t hb h
      refine ws ?_
      refine st_reg mixed (by kernel_rfl) hS ?_
      refine cg (sp_assign (odb)) ?_
      refine sn fun a w hS => ?_
      refine et ?_
      refine wp_ret ?_
      refine exit_blockR ?_
      refine exit_thenR ?_
      cases h
      obtain rfl := hL_58 _ rfl
      have h := (elim_leave hr_60)
      refine exit_thenR ?_
      refine exit_blockR ?_
      refine exit_thenR ?_
      cases h
      exact st_ret hS (run_results1 Tryz.results3 a w) (hS.get rfl)
    have h := ite_f hb h
    refine wp_skip ?_
    refine exit_block ?_
    refine et ?_
    refine st_reg mixed (by kernel_rfl) hS ?_
    refine cg (sp_add (od rfl) (odi)) ?_
    refine mv rfl ?_
    refine sn fun a w hS => ?_
    cases h
    exact ⟨k_58, _, _, rfl, hN_58 _ rfl, hS.weak ⟨od rfl, od rfl, od rfl, od rfl, od rfl, od rfl, od rfl, od rfl, od rfl, od rfl, od (congrArg (fun z => some (isV (α := Int) z)) hw_58), trivial⟩⟩
  refine wp_exit ?_
  obtain rfl := for_done hF_58 hb
  have h := elim_again hr_60
  refine exit_thenE ?_
  refine exit_thenE ?_
  refine exit_here ?_
  refine et ?_
  refine ws ?_
  refine ws ?_
  obtain ⟨v_73, e_74, h⟩ := bind_some h
  refine st_reg mixed (by kernel_rfl) hS ?_
  refine mv rfl ?_
  refine cg (sp_lss (od rfl) (odi)) ?_
  refine mv rfl ?_
  refine sc (sgF rfl fun hG => sp_move (od rfl)) ?_
  refine sc (sgF rfl fun hG => sp_fieldAddr fd24_2 (od rfl)) ?_
  refine sc (sgF rfl fun hG => sp_load ty22 (odw rfl hG)) ?_
  refine sc (sgF rfl fun hG => sp_len Tryz.underlying22 (odw rfl hG)) ?_
  refine sc (sgF rfl fun hG => sp_geq (odw rfl hG) (odw rfl hG)) ?_
  refine cg (sp_pickOr (od rfl) fun hg => odw rfl (not_t hg)) ?_
  refine mv rfl ?_
  refine sc (sgF rfl fun hG => sp_move (od rfl)) ?_
  refine sc (sgF rfl fun hG => sp_move (od rfl)) ?_
  refine sc (sgF rfl fun hG => sp_call en10 (f10_ok (guard_some e_74 hG)) ⟨odw rfl hG, odw rfl hG, trivial⟩) ?_
  refine cg (sp_pickOr (od rfl) fun hg => odw rfl (not_t hg)) ?_
  refine sn fun a w hS => ?_
  refine et ?_
  refine st_cond hS rfl (fun hb => ?_) (fun hb => ?_)
  · have h := ite_t hb h
    refine ws ?_
    refine st_reg mixed (by kernel_rfl) hS ?_
    refine cg (sp_assign (odb)) ?_
    refine sn fun a w hS => ?_
    refine et ?_
    refine wp_ret ?_
    refine exit_thenR ?_
    cases h
    exact st_ret hS (run_results1 Tryz.results3 a w) (hS.get rfl)
  have h := ite_f hb h
  refine wp_skip ?_
  refine et ?_
  refine ws ?_
  obtain ⟨m_75, e_76, h⟩ := bind_some h
  obtain ⟨z_79, e_80, h⟩ := bind_some h
  obtain ⟨v_82, e_83, h⟩ := bind_some h
  obtain ⟨v_84, e_85, h⟩ := bind_some h
  refine l_start ?_
  refine s_c hS (sg (sp_move (od rfl))) rfl fun a w hS hM => ?_
  refine s_callI en13 (f13_ok e_76) hS ⟨od rfl, trivial⟩ rfl fun a w u_77 x_78 hS hM => ?_
  have hS : St _ F0 [Item.sl (α := Int) 3 u_77 m_75] _ w0 _ _ := hS
  refine s_c hS (sg (sp_move (od rfl))) rfl fun a w hS hM => ?_
  refine s_c hS (sg (sp_buildSlice [.tmp 224] ([p5] : List Int) sl25 ze3 rfl rfl rfl rfl ⟨od rfl, trivial⟩)) rfl fun a w hS hM => ?_
  refine s_append (k := 0) (Δ := [(2, isV (α := Int) p2), (3, isV (α := Int) p3), (6, isA (α := S_api_Market) p0), (15, isV (α := Int) v_9.1), (16, isV (α := Bool) v_9.2.1), (223, Pr.is u_77), (225, isV (α := List Int) ([p5] : List Int))]) sl25 ze3 hS rfl ⟨od rfl, od rfl, od rfl, od rfl, od rfl, od rfl, od rfl, trivial⟩ ⟨fun _ _ _ _ h => h, fun _ _ _ _ h => h, fun _ _ _ _ h => h, fun _ _ _ _ h => h, fun _ _ _ _ h => h, fun _ _ _ _ h => h, fun _ _ _ _ h => h, trivial⟩ (od rfl) (od rfl) e_80 rfl fun a w u_81 hS hM => ?_
  have hS : St _ F0 [Item.sl (α := Int) 3 u_81 z_79] _ w0 _ _ := hS
  have hS := st_freeze 0 226 hS rfl rfl
  refine s_c hS (sg (sp_call en12 (f12_ok e_83) ⟨od rfl, trivial⟩)) rfl fun a w hS hM => ?_
  refine s_c hS (sg (sp_call en11 (f11_ok e_85) ⟨od rfl, trivial⟩)) rfl fun a w hS hM => ?_
  refine s_c hS (sg (sp_assign (od rfl))) rfl fun a w hS hM => ?_
  refine l_end ?_
  refine et ?_
  refine ws ?_
  obtain ⟨v_86, e_87, h⟩ := bind_some h
  refine st_reg mixed (by kernel_rfl) hS ?_
  refine cg (sp_load ty24 (od rfl)) ?_
  refine mv rfl ?_
  refine mv rfl ?_
  refine mv rfl ?_
  refine cg (sp_call en9 (f9_ok e_87) ⟨od rfl, od rfl, od rfl, od rfl, trivial⟩) ?_
  refine mv rfl ?_
  refine cg (sp_extract (od rfl) rfl) ?_
  refine cg (sp_extract (od rfl) rfl) ?_
  refine cg (sp_extract (od rfl) rfl) ?_
  refine cg (sp_assign (od rfl)) ?_
  refine cg (sp_assign (od rfl)) ?_
  refine cg (sp_assign (od rfl)) ?_
  refine sn fun a w hS => ?_
  refine et ?_
  refine ws ?_
  refine st_reg mixed (by kernel_rfl) hS ?_
  refine mv rfl ?_
  refine cg (sp_eql (od rfl) (odi)) ?_
  refine mv rfl ?_
  refine sc (sgT rfl fun hG => sp_move (od rfl)) ?_
  refine sc (sgT rfl fun hG => sp_not (odw rfl hG)) ?_
  refine sc (sgT rfl fun hG => sp_move (odw rfl hG)) ?_
  refine sc (sgwF rfl fun hG => sp_move (od rfl)) ?_
  refine sc (sgwF rfl fun hG => sp_move (odw rfl hG)) ?_
  refine sc (sgwT rfl fun hG => sp_move (od rfl)) ?_
  refine sc (sgwT rfl fun hG => sp_move (od rfl)) ?_
  refine sc (sgwT rfl fun hG => sp_leq (odw rfl hG) (odw rfl hG)) ?_
  refine sc (sgwF rfl fun hG => sp_pickAnd (odw rfl hG) fun hg => odw rfl (and_mk hG hg)) ?_
  refine sc (sgT rfl fun hG => sp_pickOr (odw rfl hG) fun hg => odw rfl (and_mk hG (not_t hg))) ?_
  refine cg (sp_pickAnd (od rfl) fun hg => odw rfl hg) ?_
  refine cg (sp_assign (od rfl)) ?_
  refine sn fun a w hS => ?_
  refine et ?_
  refine wp_ret ?_
  cases h
  exact st_ret hS (run_results1 Tryz.results3 a w) (hS.get rfl)

end Go.Proofs.YtjlagmcdoobimaaGreat
