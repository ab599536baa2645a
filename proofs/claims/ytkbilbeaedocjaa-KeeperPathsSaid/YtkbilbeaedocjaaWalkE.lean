/-
  What is proved: each Go function named here returns what its model tells, and changes nothing that was there; where the model tells something.
-/
import Derived.Test.YtkbilbeaedocjaaWalkK
import Derived.Test.YtkbilbeaedocjaaModelE
set_option linter.unusedVariables false
set_option maxRecDepth 100000
namespace Go.Proofs.Ytkbilbeaedocjaa
open Go Go.RowKit Go.Proofs.Ytkbilbeaedocjaa.Wh

theorem f56_ok {fuel : Nat} {p0 : S_api_Market} {p1 : List Int} {p2 : Int} {p3 : Int} {r : Int × Bool × Int} (h : M.f56 fuel p0 p1 p2 p3 = some r) : CallOK Try.prog 56 [isV p0, isV p1, isV p2, isV p3] (isTup [isV r.1, isV r.2.1, isV r.2.2]) := by
  unfold M.f56 at h
  refine callS_of Try.func56 rfl Try.ntmps56 rfl fun F0 w0 a hS => ?_
  refine ws ?_
  refine st_reg mixed (by kernel_rfl) hS ?_
  refine cg (sp_box (od rfl)) ?_
  refine cg (sp_assign (odi)) ?_
  refine cg (sp_assign (odb)) ?_
  refine cg (sp_assign (odi)) ?_
  refine sn fun a w hS => ?_
  refine et ?_
  refine ws ?_
  refine ws ?_
  obtain ⟨v_1, e_2, h⟩ := bind_some h
  refine st_reg mixed (by kernel_rfl) hS ?_
  refine cg (sp_load ty24 (od rfl)) ?_
  refine mv rfl ?_
  refine mv rfl ?_
  refine mv rfl ?_
  refine cg (sp_buildSlice [.tmp 15, .tmp 16] ([p2, p3] : List Int) sl27 ze3 rfl rfl rfl rfl ⟨od rfl, od rfl, trivial⟩) ?_
  refine cg (sp_call en72 (f72_ok e_2) ⟨od rfl, od rfl, odi, od rfl, trivial⟩) ?_
  refine cg (sp_assign (od rfl)) ?_
  refine sn fun a w hS => ?_
  refine et ?_
  refine ws ?_
  refine st_reg mixed (by kernel_rfl) hS ?_
  refine mv rfl ?_
  refine cg (sp_neq (od rfl) (odi)) ?_
  refine sn fun a w hS => ?_
  refine et ?_
  refine st_cond hS rfl (fun hb => ?_) (fun hb => ?_)
  · have h := ite_t hb h
    refine ws ?_
    refine st_reg mixed (by kernel_rfl) hS ?_
    refine mv rfl ?_
    refine cg (sp_assign (odi)) ?_
    refine cg (sp_assign (odb)) ?_
    refine cg (sp_assign (od rfl)) ?_
    refine sn fun a w hS => ?_
    refine et ?_
    refine wp_ret ?_
    refine exit_thenR ?_
    cases h
    exact st_ret hS (run_results3 Try.results56 a w) (⟨_, rfl, hS.get rfl, hS.get rfl, hS.get rfl, trivial⟩)
  have h := ite_f hb h
  refine wp_skip ?_
  refine et ?_
  refine ws ?_
  obtain ⟨v_3, e_4, h⟩ := bind_some h
  refine st_reg mixed (by kernel_rfl) hS ?_
  refine cg (sp_load ty24 (od rfl)) ?_
  refine mv rfl ?_
  refine mv rfl ?_
  refine mv rfl ?_
  refine cg (sp_call en84 (f84_ok e_4) ⟨od rfl, od rfl, od rfl, od rfl, trivial⟩) ?_
  refine cg (sp_assign (od rfl)) ?_
  refine sn fun a w hS => ?_
  refine et ?_
  refine ws ?_
  refine ws ?_
  refine st_reg mixed (by kernel_rfl) hS ?_
  refine mv rfl ?_
  refine cg (sp_geq (od rfl) (odi)) ?_
  refine sn fun a w hS => ?_
  refine et ?_
  refine st_cond hS rfl (fun hb => ?_) (fun hb => ?_)
  · have h := ite_t hb h
    refine ws ?_
    refine st_reg mixed (by kernel_rfl) hS ?_
    refine cg (sp_assign (odi)) ?_
    refine cg (sp_assign (odb)) ?_
    refine cg (sp_assign (odi)) ?_
    refine sn fun a w hS => ?_
    refine et ?_
    refine wp_ret ?_
    refine exit_thenR ?_
    cases h
    exact st_ret hS (run_results3 Try.results56 a w) (⟨_, rfl, hS.get rfl, hS.get rfl, hS.get rfl, trivial⟩)
  have h := ite_f hb h
  refine wp_skip ?_
  refine et ?_
  refine ws ?_
  refine st_reg mixed (by kernel_rfl) hS ?_
  refine mv rfl ?_
  refine cg (sp_assign (od rfl)) ?_
  refine cg (sp_assign (odb)) ?_
  refine cg (sp_assign (odi)) ?_
  refine sn fun a w hS => ?_
  refine et ?_
  refine wp_ret ?_
  cases h
  exact st_ret hS (run_results3 Try.results56 a w) (⟨_, rfl, hS.get rfl, hS.get rfl, hS.get rfl, trivial⟩)

theorem f57_ok {fuel : Nat} {p0 : S_api_Market} {p1 : List Int} {r : Int × Int} (h : M.f57 fuel p0 p1 = some r) : CallOK Try.prog 57 [isV p0, isV p1] (isTup [isV r.1, isV r.2]) := by
  unfold M.f57 at h
  refine callS_of Try.func57 rfl Try.ntmps57 rfl fun F0 w0 a hS => ?_
  refine ws ?_
  refine st_reg mixed (by kernel_rfl) hS ?_
  refine cg (sp_box (od rfl)) ?_
  refine cg (sp_assign (odi)) ?_
  refine cg (sp_assign (odi)) ?_
  refine sn fun a w hS => ?_
  refine et ?_
  refine ws ?_
  refine ws ?_
  obtain ⟨v_1, e_2, h⟩ := bind_some h
  refine st_reg mixed (by kernel_rfl) hS ?_
  refine cg (sp_load ty24 (od rfl)) ?_
  refine mv rfl ?_
  refine cg (sp_call en72 (f72_ok e_2) ⟨od rfl, od rfl, odi, odnil (α := Int), trivial⟩) ?_
  refine cg (sp_assign (od rfl)) ?_
  refine sn fun a w hS => ?_
  refine et ?_
  refine ws ?_
  refine st_reg mixed (by kernel_rfl) hS ?_
  refine mv rfl ?_
  refine cg (sp_neq (od rfl) (odi)) ?_
  refine sn fun a w hS => ?_
  refine et ?_
  refine st_cond hS rfl (fun hb => ?_) (fun hb => ?_)
  · have h := ite_t hb h
    refine ws ?_
    refine st_reg mixed (by kernel_rfl) hS ?_
    refine mv rfl ?_
    refine cg (sp_assign (odi)) ?_
    refine cg (sp_assign (od rfl)) ?_
    refine sn fun a w hS => ?_
    refine et ?_
    refine wp_ret ?_
    refine exit_thenR ?_
    cases h
    exact st_ret hS (run_results2 Try.results57 a w) (⟨_, rfl, hS.get rfl, hS.get rfl, trivial⟩)
  have h := ite_f hb h
  refine wp_skip ?_
  refine et ?_
  refine ws ?_
  obtain ⟨v_3, e_4, h⟩ := bind_some h
  refine st_reg mixed (by kernel_rfl) hS ?_
  refine cg (sp_load ty24 (od rfl)) ?_
  refine mv rfl ?_
  refine cg (sp_call en81 (f81_ok e_4) ⟨od rfl, od rfl, trivial⟩) ?_
  refine cg (sp_assign (od rfl)) ?_
  refine cg (sp_assign (odi)) ?_
  refine sn fun a w hS => ?_
  refine et ?_
  refine wp_ret ?_
  cases h
  exact st_ret hS (run_results2 Try.results57 a w) (⟨_, rfl, hS.get rfl, hS.get rfl, trivial⟩)

theorem f58_ok {p0 : S_api_Market} {p1 : List Int} {r : (List (List Int)) × Int} (h : M.f58 p0 p1 = some r) : CallOK Try.prog 58 [isV p0, isV p1] (isTup [isV r.1, isV r.2]) := by
  unfold M.f58 at h
  refine callS_of Try.func58 rfl Try.ntmps58 rfl fun F0 w0 a hS => ?_
  refine ws ?_
  refine st_reg mixed (by kernel_rfl) hS ?_
  refine cg (sp_box (od rfl)) ?_
  refine cg (sp_assign (odnil (α := List Int))) ?_
  refine cg (sp_assign (odi)) ?_
  refine sn fun a w hS => ?_
  refine et ?_
  refine ws ?_
  refine ws ?_
  obtain ⟨v_1, e_2, h⟩ := bind_some h
  refine st_reg mixed (by kernel_rfl) hS ?_
  refine cg (sp_load ty24 (od rfl)) ?_
  refine mv rfl ?_
  refine cg (bd106_ ) ?_
  refine cg (sp_call en76 (f76_ok e_2) ⟨od rfl, od rfl, od rfl, trivial⟩) ?_
  refine cg (sp_assign (od rfl)) ?_
  refine sn fun a w hS => ?_
  refine et ?_
  refine ws ?_
  refine st_reg mixed (by kernel_rfl) hS ?_
  refine mv rfl ?_
  refine cg (sp_neq (od rfl) (odi)) ?_
  refine sn fun a w hS => ?_
  refine et ?_
  refine st_cond hS rfl (fun hb => ?_) (fun hb => ?_)
  · have h := ite_t hb h
    refine ws ?_
    refine st_reg mixed (by kernel_rfl) hS ?_
    refine mv rfl ?_
    refine cg (sp_assign (odnil (α := List Int))) ?_
    refine cg (sp_assign (od rfl)) ?_
    refine sn fun a w hS => ?_
    refine et ?_
    refine wp_ret ?_
    refine exit_thenR ?_
    cases h
    exact st_ret hS (run_results2 Try.results58 a w) (⟨_, rfl, hS.get rfl, hS.get rfl, trivial⟩)
  have h := ite_f hb h
  refine wp_skip ?_
  refine et ?_
  refine ws ?_
  obtain ⟨v_3, e_4, h⟩ := bind_some h
  obtain ⟨v_5, e_6, h⟩ := bind_some h
  refine st_reg mixed (by kernel_rfl) hS ?_
  refine cg (sp_load ty24 (od rfl)) ?_
  refine mv rfl ?_
  refine cg (sp_call en92 (f92_ok e_4) ⟨od rfl, trivial⟩) ?_
  refine cg (sp_call en83 (f83_ok e_6) ⟨od rfl, od rfl, trivial⟩) ?_
  refine cg (sp_assign (od rfl)) ?_
  refine sn fun a w hS => ?_
  refine et ?_
  refine ws ?_
  refine st_reg mixed (by kernel_rfl) hS ?_
  refine cg (sp_assign (φ := Pr.is (.slice none 0 0)) (odc fun _ => rfl)) ?_
  refine sn fun a w hS => ?_
  have hS := st_nil (α := List Int) 27 hS
  have hS : St _ F0 [Item.sl (α := List Int) 27 (.slice none 0 0) ([] : List (List Int))] _ w0 _ _ := hS
  refine et ?_
  refine ws ?_
  refine ws ?_
  refine st_reg mixed (by kernel_rfl) hS ?_
  refine cg (sp_fieldAddr fd24_0 (od rfl)) ?_
  refine cg (sp_load ty3 (od rfl)) ?_
  refine cg (sp_move (odi)) ?_
  refine sn fun a w hS => ?_
  refine et ?_
  refine wp_block ?_
  obtain ⟨o_10, e_11, hr_12⟩ := bind_some h
  refine c_loop (fun K a w => ∃ k i_7 s_9, ∃ u_13 : Value, K = k + 1 ∧ ForT _ _ _ o_10 k i_7 s_9 ∧ St 61 F0 [Item.sl (α := List Int) 27 u_13 s_9] [(2, isA (α := S_api_Market) p0), (7, isV (α := List (List Int)) v_5), (8, Pr.is u_13), (24, isV (α := Int) p0.1), (25, isV (α := Int) i_7)] w0 a w) ?_ ?_ ⟨_, _, _, (.slice none 0 0), rfl, fors_init e_11, hS.weak ⟨od rfl, od rfl, od rfl, od rfl, od rfl, trivial⟩⟩
  · rintro a w ⟨_, _, _, _, hk, _⟩; cases hk
  rintro K a w ⟨k_10, i_7, s_9, u_13, hk, hF_10, hS⟩
  obtain rfl := Nat.succ.inj hk
  refine ws ?_
  refine st_reg mixed (by kernel_rfl) hS ?_
  refine cg (sp_lss (od rfl) (od rfl)) ?_
  refine sn fun a w hS => ?_
  refine et ?_
  refine ws ?_
  refine st_cond hS rfl (fun hb => ?_) (fun hb => ?_)
  · refine wp_skip ?_
    refine et ?_
    obtain ⟨k_10, s', rfl, h, hF_10, hw_10⟩ := fors_more hF_10 hb
    refine ws ?_
    refine wp_block ?_
    refine ws ?_
    refine st_reg mixed (by kernel_rfl) hS ?_
    refine mv rfl ?_
    refine cg (sp_assign (od rfl)) ?_
    refine sn fun a w hS => ?_
    refine et ?_
    refine ws ?_
    refine st_reg mixed (by kernel_rfl) hS ?_
    refine cg (sp_assign (φ := Pr.is (.slice none 0 0)) (odc fun _ => rfl)) ?_
    refine sn fun a w hS => ?_
    have hS := st_nil (α := Int) 3 hS
    have hS : St _ F0 [Item.sl (α := List Int) 27 u_13 s_9, Item.sl (α := Int) 3 (.slice none 0 0) ([] : List Int)] _ w0 _ _ := hS
    refine et ?_
    refine ws ?_
    refine ws ?_
    refine st_reg mixed (by kernel_rfl) hS ?_
    refine cg (sp_fieldAddr fd24_0 (od rfl)) ?_
    refine cg (sp_load ty3 (od rfl)) ?_
    refine cg (sp_move (odi)) ?_
    refine sn fun a w hS => ?_
    refine et ?_
    refine wp_block ?_
    obtain ⟨o_17, e_18, hr_19⟩ := bind_some h
    refine c_loop (fun K a w => ∃ k i_14 s_16, ∃ u_20 : Value, K = k + 1 ∧ ForT _ _ _ o_17 k i_14 s_16 ∧ St 61 F0 [Item.sl (α := List Int) 27 u_13 s_9, Item.sl (α := Int) 3 u_20 s_16] [(2, isA (α := S_api_Market) p0), (7, isV (α := List (List Int)) v_5), (8, Pr.is u_13), (9, isV (α := Int) i_7), (10, Pr.is u_20), (24, isV (α := Int) p0.1), (25, isV (α := Int) i_7), (29, isV (α := Int) p0.1), (30, isV (α := Int) i_14)] w0 a w) ?_ ?_ ⟨_, _, _, (.slice none 0 0), rfl, fors_init e_18, hS.weak ⟨od rfl, od rfl, od rfl, od rfl, od rfl, od rfl, od rfl, od rfl, od rfl, trivial⟩⟩
    · rintro a w ⟨_, _, _, _, hk, _⟩; cases hk
    rintro K a w ⟨k_17, i_14, s_16, u_20, hk, hF_17, hS⟩
    obtain rfl := Nat.succ.inj hk
    refine ws ?_
    refine st_reg mixed (by kernel_rfl) hS ?_
    refine cg (sp_lss (od rfl) (od rfl)) ?_
    refine sn fun a w hS => ?_
    refine et ?_
    refine ws ?_
    refine st_cond hS rfl (fun hb => ?_) (fun hb => ?_)
    · refine wp_skip ?_
      refine et ?_
      obtain ⟨k_17, s', rfl, h, hF_17, hw_17⟩ := fors_more hF_17 hb
      refine ws ?_
      refine wp_block ?_
      refine ws ?_
      refine st_reg mixed (by kernel_rfl) hS ?_
      refine mv rfl ?_
      refine cg (sp_assign (od rfl)) ?_
      refine sn fun a w hS => ?_
      refine et ?_
      refine ws ?_
      obtain ⟨v_21, e_22, h⟩ := bind_some h
      obtain ⟨v_23, e_24, h⟩ := bind_some h
      refine st_reg mixed (by kernel_rfl) hS ?_
      refine mv rfl ?_
      refine mv rfl ?_
      refine cg (sp_indexAddr sl112 (od rfl) (od rfl) e_22) ?_
      refine cg (sp_load ty27 (od rfl)) ?_
      refine mv rfl ?_
      refine cg (sp_indexAddr sl27 (od rfl) (od rfl) e_24) ?_
      refine cg (sp_load ty3 (od rfl)) ?_
      refine cg (sp_geq (od rfl) (odi)) ?_
      refine sn fun a w hS => ?_
      refine et ?_
      obtain ⟨y_26, hj_25, h⟩ := bind_some h
      refine wp_mono (Q := fun e a w => e = Exit.normal ∧ ∃ u_27 : Value, St 61 F0 [Item.sl (α := List Int) 27 u_13 s_9, Item.sl (α := Int) 3 u_27 y_26] [(2, isA (α := S_api_Market) p0), (7, isV (α := List (List Int)) v_5), (8, Pr.is u_13), (9, isV (α := Int) i_7), (10, Pr.is u_27), (24, isV (α := Int) p0.1), (25, isV (α := Int) i_7), (29, isV (α := Int) p0.1), (30, isV (α := Int) i_14)] w0 a w) ?_ ?_
      · refine st_cond hS rfl (fun hb => ?_) (fun hb => ?_)
        · have h := ite_t hb hj_25
          obtain ⟨z_28, e_29, h⟩ := bind_some h
          refine l_start ?_
          refine s_c hS (sg (sp_move (od rfl))) rfl fun a w hS hM => ?_
          refine s_c hS (sg (sp_buildSlice [.const (.int .i64 (-1))] ([(-1)] : List Int) sl27 ze3 rfl rfl rfl rfl ⟨odi, trivial⟩)) rfl fun a w hS hM => ?_
          refine s_append (k := 1) (Δ := [(2, isA (α := S_api_Market) p0), (7, isV (α := List (List Int)) v_5), (8, Pr.is u_13), (9, isV (α := Int) i_7), (24, isV (α := Int) p0.1), (25, isV (α := Int) i_7), (29, isV (α := Int) p0.1), (30, isV (α := Int) i_14), (41, Pr.is u_20), (42, isV (α := List Int) ([(-1)] : List Int))]) sl27 ze3 hS rfl ⟨od rfl, od rfl, od rfl, od rfl, od rfl, od rfl, od rfl, od rfl, od rfl, od rfl, trivial⟩ ⟨fun _ _ _ _ h => h, fun _ _ _ _ h => h, fun _ _ _ _ h => h, fun _ _ _ _ h => h, fun _ _ _ _ h => h, fun _ _ _ _ h => h, fun _ _ _ _ h => h, fun _ _ _ _ h => h, fun _ _ _ _ h => h, fun _ _ _ _ h => h, trivial⟩ (od rfl) (od rfl) e_29 rfl fun a w u_30 hS hM => ?_
          have hS : St _ F0 [Item.sl (α := List Int) 27 u_13 s_9, Item.sl (α := Int) 3 u_30 z_28] _ w0 _ _ := hS
          refine s_c hS (sg (sp_assign (od rfl))) rfl fun a w hS hM => ?_
          refine l_end ?_
          cases h
          exact ⟨rfl, u_30, hS.weak ⟨od rfl, od rfl, od rfl, od rfl, od rfl, od rfl, od rfl, od rfl, od rfl, trivial⟩⟩
        have h := ite_f hb hj_25
        obtain ⟨v_31, e_32, h⟩ := bind_some h
        obtain ⟨v_33, e_34, h⟩ := bind_some h
        obtain ⟨z_35, e_36, h⟩ := bind_some h
        refine l_start ?_
        refine s_c hS (sg (sp_move (od rfl))) rfl fun a w hS hM => ?_
        refine s_c hS (sg (sp_move (od rfl))) rfl fun a w hS hM => ?_
        refine s_c hS (sg (sp_move (od rfl))) rfl fun a w hS hM => ?_
        refine s_c hS (sg (sp_indexAddr sl112 (od rfl) (od rfl) e_32)) rfl fun a w hS hM => ?_
        refine s_c hS (sg (sp_load ty27 (od rfl))) rfl fun a w hS hM => ?_
        refine s_c hS (sg (sp_move (od rfl))) rfl fun a w hS hM => ?_
        refine s_c hS (sg (sp_indexAddr sl27 (od rfl) (od rfl) e_34)) rfl fun a w hS hM => ?_
        refine s_c hS (sg (sp_load ty3 (od rfl))) rfl fun a w hS hM => ?_
        refine s_c hS (sg (sp_buildSlice [.tmp 51] ([v_33] : List Int) sl27 ze3 rfl rfl rfl rfl ⟨od rfl, trivial⟩)) rfl fun a w hS hM => ?_
        refine s_append (k := 1) (Δ := [(2, isA (α := S_api_Market) p0), (7, isV (α := List (List Int)) v_5), (8, Pr.is u_13), (9, isV (α := Int) i_7), (24, isV (α := Int) p0.1), (25, isV (α := Int) i_7), (29, isV (α := Int) p0.1), (30, isV (α := Int) i_14), (44, Pr.is u_20), (52, isV (α := List Int) ([v_33] : List Int))]) sl27 ze3 hS rfl ⟨od rfl, od rfl, od rfl, od rfl, od rfl, od rfl, od rfl, od rfl, od rfl, od rfl, trivial⟩ ⟨fun _ _ _ _ h => h, fun _ _ _ _ h => h, fun _ _ _ _ h => h, fun _ _ _ _ h => h, fun _ _ _ _ h => h, fun _ _ _ _ h => h, fun _ _ _ _ h => h, fun _ _ _ _ h => h, fun _ _ _ _ h => h, fun _ _ _ _ h => h, trivial⟩ (od rfl) (od rfl) e_36 rfl fun a w u_37 hS hM => ?_
        have hS : St _ F0 [Item.sl (α := List Int) 27 u_13 s_9, Item.sl (α := Int) 3 u_37 z_35] _ w0 _ _ := hS
        refine s_c hS (sg (sp_assign (od rfl))) rfl fun a w hS hM => ?_
        refine l_end ?_
        cases h
        exact ⟨rfl, u_37, hS.weak ⟨od rfl, od rfl, od rfl, od rfl, od rfl, od rfl, od rfl, od rfl, od rfl, trivial⟩⟩
      rintro e a w ⟨rfl, u_27, hS⟩
      refine exit_block ?_
      refine et ?_
      refine st_reg mixed (by kernel_rfl) hS ?_
      refine cg (sp_add (od rfl) (odi)) ?_
      refine mv rfl ?_
      refine sn fun a w hS => ?_
      cases h
      exact ⟨k_17, _, _, u_27, rfl, hF_17, hS.weak ⟨od rfl, od rfl, od rfl, od rfl, od rfl, od rfl, od rfl, od rfl, od (congrArg (fun z => some (isV (α := Int) z)) hw_17), trivial⟩⟩
    refine wp_exit ?_
    obtain rfl := (fors_done hF_17 hb).symm
    have h := hr_19
    refine exit_thenE ?_
    refine exit_thenE ?_
    refine exit_here ?_
    refine et ?_
    have hS := st_freeze 1 10 hS rfl rfl
    obtain ⟨z_38, e_39, h⟩ := bind_some h
    refine l_start ?_
    refine s_c hS (sg (sp_move (od rfl))) rfl fun a w hS hM => ?_
    refine s_c hS (sg (sp_move (od rfl))) rfl fun a w hS hM => ?_
    refine s_c hS (sg (sp_buildSlice [.tmp 56] ([s_16] : List (List Int)) sl75 ze27 rfl rfl rfl rfl ⟨od rfl, trivial⟩)) rfl fun a w hS hM => ?_
    refine s_append (k := 0) (Δ := [(2, isA (α := S_api_Market) p0), (7, isV (α := List (List Int)) v_5), (24, isV (α := Int) p0.1), (25, isV (α := Int) i_7), (55, Pr.is u_13), (57, isV (α := List (List Int)) ([s_16] : List (List Int)))]) sl75 ze27 hS rfl ⟨od rfl, od rfl, od rfl, od rfl, od rfl, od rfl, trivial⟩ ⟨fun _ _ _ _ h => h, fun _ _ _ _ h => h, fun _ _ _ _ h => h, fun _ _ _ _ h => h, fun _ _ _ _ h => h, fun _ _ _ _ h => h, trivial⟩ (od rfl) (od rfl) e_39 rfl fun a w u_40 hS hM => ?_
    have hS : St _ F0 [Item.sl (α := List Int) 27 u_40 z_38] _ w0 _ _ := hS
    refine s_c hS (sg (sp_assign (od rfl))) rfl fun a w hS hM => ?_
    refine l_end ?_
    refine exit_block ?_
    refine et ?_
    refine st_reg mixed (by kernel_rfl) hS ?_
    refine cg (sp_add (od rfl) (odi)) ?_
    refine mv rfl ?_
    refine sn fun a w hS => ?_
    cases h
    exact ⟨k_10, _, _, u_40, rfl, hF_10, hS.weak ⟨od rfl, od rfl, od rfl, od rfl, od (congrArg (fun z => some (isV (α := Int) z)) hw_10), trivial⟩⟩
  refine wp_exit ?_
  obtain rfl := (fors_done hF_10 hb).symm
  have h := hr_12
  refine exit_thenE ?_
  refine exit_thenE ?_
  refine exit_here ?_
  refine et ?_
  refine ws ?_
  refine st_reg mixed (by kernel_rfl) hS ?_
  refine mv rfl ?_
  refine cg (sp_assign (od rfl)) ?_
  refine cg (sp_assign (odi)) ?_
  refine sn fun a w hS => ?_
  refine et ?_
  refine wp_ret ?_
  have hS0 := hS
  have hS := st_freeze 0 4 hS rfl rfl
  have hS := st_also (t := 4) (q := 8) hS0 hS rfl rfl rfl
  have hS := st_also (t := 4) (q := 60) hS0 hS rfl rfl rfl
  cases h
  exact st_ret hS (run_results2 Try.results58 a w) (⟨_, rfl, hS.get rfl, hS.get rfl, trivial⟩)

theorem f59_ok {fuel : Nat} {p0 : S_api_Market} {p1 : List Int} {r : (List (List Int)) × Int} (h : M.f59 fuel p0 p1 = some r) : CallOK Try.prog 59 [isV p0, isV p1] (isTup [isV r.1, isV r.2]) := by
  unfold M.f59 at h
  refine callS_of Try.func59 rfl Try.ntmps59 rfl fun F0 w0 a hS => ?_
  refine ws ?_
  refine st_reg mixed (by kernel_rfl) hS ?_
  refine cg (sp_box (od rfl)) ?_
  refine cg (sp_assign (odnil (α := List Int))) ?_
  refine cg (sp_assign (odi)) ?_
  refine sn fun a w hS => ?_
  refine et ?_
  refine ws ?_
  refine ws ?_
  obtain ⟨v_1, e_2, h⟩ := bind_some h
  refine st_reg mixed (by kernel_rfl) hS ?_
  refine cg (sp_load ty24 (od rfl)) ?_
  refine mv rfl ?_
  refine cg (sp_call en72 (f72_ok e_2) ⟨od rfl, od rfl, odi, odnil (α := Int), trivial⟩) ?_
  refine cg (sp_assign (od rfl)) ?_
  refine sn fun a w hS => ?_
  refine et ?_
  refine ws ?_
  refine st_reg mixed (by kernel_rfl) hS ?_
  refine mv rfl ?_
  refine cg (sp_neq (od rfl) (odi)) ?_
  refine sn fun a w hS => ?_
  refine et ?_
  refine st_cond hS rfl (fun hb => ?_) (fun hb => ?_)
  · have h := ite_t hb h
    refine ws ?_
    refine st_reg mixed (by kernel_rfl) hS ?_
    refine mv rfl ?_
    refine cg (sp_assign (odnil (α := List Int))) ?_
    refine cg (sp_assign (od rfl)) ?_
    refine sn fun a w hS => ?_
    refine et ?_
    refine wp_ret ?_
    refine exit_thenR ?_
    cases h
    exact st_ret hS (run_results2 Try.results59 a w) (⟨_, rfl, hS.get rfl, hS.get rfl, trivial⟩)
  have h := ite_f hb h
  refine wp_skip ?_
  refine et ?_
  refine ws ?_
  obtain ⟨v_3, e_4, h⟩ := bind_some h
  obtain ⟨m_5, e_6, h⟩ := bind_some h
  refine st_float mixed [0, 0, 0, 0, 0, 2, 2] (by kernel_rfl) (by kernel_rfl) hS ?_
  refine sfA (sg (sp_fieldAddr fd24_0 (od rfl))) ?_
  refine sfA (sg (sp_load ty3 (od rfl))) ?_
  refine sfA (sg (sp_load ty24 (od rfl))) ?_
  refine sfA (sg (sp_move (od rfl))) ?_
  refine sfA (sg (sp_call en102 (f102_ok e_4) ⟨od rfl, od rfl, trivial⟩)) ?_
  refine sfT ?_
  refine sfT ?_
  refine sfN fun c a w hS hC => ?_
  refine ls ?_
  refine s_callI en101 (f101_ok e_6) hS ⟨od rfl, od rfl, trivial⟩ rfl fun a w u_7 x_8 hS hM => ?_
  have hS : St _ F0 [Item.tab (α := Int) 27 3 u_7 x_8.1 x_8.2 m_5] _ w0 _ _ := hS
  have hC := Mem.le_trans hC hM
  refine s_next hC ?_
  refine ls ?_
  refine s_c hS (sg (sp_assign (od rfl))) rfl fun a w hS hM => ?_
  have hC := Mem.le_trans hC hM
  refine s_next hC ?_
  refine s_done ?_
  refine et ?_
  refine ws ?_
  refine ws ?_
  refine st_reg mixed (by kernel_rfl) hS ?_
  refine cg (sp_assign (odi)) ?_
  refine sn fun a w hS => ?_
  refine et ?_
  refine wp_block ?_
  obtain ⟨o_10, e_11, hr_12⟩ := bind_some h
  refine c_loop (fun K a w => ∃ s_9 : Int × (List (List Int)), loopM _ K s_9 = some o_10 ∧ St 49 F0 [Item.tab (α := Int) 27 3 u_7 x_8.1 x_8.2 s_9.2] [(2, isA (α := S_api_Market) p0), (7, Pr.is u_7), (8, isV (α := Int) s_9.1)] w0 a w) ?_ ?_ ⟨_, e_11, hS.weak ⟨od rfl, od rfl, od rfl, trivial⟩⟩
  · rintro a w ⟨_, hk, _⟩; cases hk
  rintro K a w ⟨s_9, hF_10, hS⟩
  obtain ⟨o, h, hN_10, hL_10⟩ := loop_more hF_10
  refine ws ?_
  refine ws ?_
  refine st_reg mixed (by kernel_rfl) hS ?_
  refine mv rfl ?_
  refine cg (sp_fieldAddr fd24_0 (od rfl)) ?_
  refine cg (sp_load ty3 (od rfl)) ?_
  refine cg (sp_lss (od rfl) (od rfl)) ?_
  refine sn fun a w hS => ?_
  refine et ?_
  refine st_cond hS rfl (fun hb => ?_) (fun hb => ?_)
  · have h := ite_t hb h
    refine wp_skip ?_
    refine et ?_
    refine ws ?_
    refine wp_block ?_
    refine ws ?_
    refine st_reg mixed (by kernel_rfl) hS ?_
    refine cg (sp_assign (odi)) ?_
    refine sn fun a w hS => ?_
    refine et ?_
    refine wp_block ?_
    obtain ⟨o_14, e_15, hr_16⟩ := bind_some h
    refine c_loop (fun K a w => ∃ s_13 : Int × (List (List Int)), loopM _ K s_13 = some o_14 ∧ St 49 F0 [Item.tab (α := Int) 27 3 u_7 x_8.1 x_8.2 s_13.2] [(2, isA (α := S_api_Market) p0), (7, Pr.is u_7), (8, isV (α := Int) s_9.1), (9, isV (α := Int) s_13.1)] w0 a w) ?_ ?_ ⟨_, e_15, hS.weak ⟨od rfl, od rfl, od rfl, od rfl, trivial⟩⟩
    · rintro a w ⟨_, hk, _⟩; cases hk
    rintro K a w ⟨s_13, hF_14, hS⟩
    obtain ⟨o, h, hN_14, hL_14⟩ := loop_more hF_14
    refine ws ?_
    refine ws ?_
    refine st_reg mixed (by kernel_rfl) hS ?_
    refine mv rfl ?_
    refine cg (sp_fieldAddr fd24_0 (od rfl)) ?_
    refine cg (sp_load ty3 (od rfl)) ?_
    refine cg (sp_lss (od rfl) (od rfl)) ?_
    refine sn fun a w hS => ?_
    refine et ?_
    refine st_cond hS rfl (fun hb => ?_) (fun hb => ?_)
    · have h := ite_t hb h
      refine wp_skip ?_
      refine et ?_
      refine ws ?_
      refine wp_block ?_
      refine ws ?_
      have hS := st_tab 0 7 hS rfl rfl
      obtain ⟨v_17, e_18, h⟩ := bind_some h
      obtain ⟨v_19, e_20, h⟩ := bind_some h
      refine st_reg mixed (by kernel_rfl) hS ?_
      refine mv rfl ?_
      refine mv rfl ?_
      refine cg (sp_indexAddrT Try.underlying75 sz27 (od rfl) (od rfl) e_18) ?_
      refine cg (sp_loadTR Try.underlying27 (od rfl)) ?_
      refine mv rfl ?_
      refine cg (sp_indexAddrTA sl27 (od rfl) (od rfl) e_20) ?_
      refine cg (sp_loadTA ty3 (od rfl)) ?_
      refine cg (sp_geq (od rfl) (odi)) ?_
      refine sn fun a w hS => ?_
      refine et ?_
      obtain ⟨y_22, hj_21, h⟩ := bind_some h
      refine wp_mono (Q := fun e a w => e = Exit.normal ∧ St 49 F0 [Item.tab (α := Int) 27 3 u_7 x_8.1 x_8.2 y_22] [(2, isA (α := S_api_Market) p0), (7, Pr.is u_7), (8, isV (α := Int) s_9.1), (9, isV (α := Int) s_13.1)] w0 a w) ?_ ?_
      · refine st_cond hS rfl (fun hb => ?_) (fun hb => ?_)
        · have h := ite_t hb hj_21
          obtain ⟨v_23, e_24, h⟩ := bind_some h
          obtain ⟨v_25, e_26, h⟩ := bind_some h
          obtain ⟨z_27, e_28, h⟩ := bind_some h
          refine l_start ?_
          refine s_c hS (sg (sp_move (od rfl))) rfl fun a w hS hM => ?_
          refine s_c hS (sg (sp_move (od rfl))) rfl fun a w hS hM => ?_
          refine s_c hS (sg (sp_indexAddrT Try.underlying75 sz27 (od rfl) (od rfl) e_24)) rfl fun a w hS hM => ?_
          refine s_c hS (sg (sp_loadTR Try.underlying27 (od rfl))) rfl fun a w hS hM => ?_
          refine s_c hS (sg (sp_move (od rfl))) rfl fun a w hS hM => ?_
          refine s_c hS (sg (sp_indexAddrTA sl27 (od rfl) (od rfl) e_26)) rfl fun a w hS hM => ?_
          refine s_storeTA (k := 0) (i := s_9.1) (j := s_13.1) (Δ := [(2, isA (α := S_api_Market) p0), (7, Pr.is u_7), (8, isV (α := Int) s_9.1), (9, isV (α := Int) s_13.1), (47, isHA Int x_8.2 s_9.1.toNat s_13.1.toNat)]) ty3 hS rfl ⟨od rfl, odTab rfl, od rfl, od rfl, odHA rfl, trivial⟩ ⟨fun _ _ _ _ h => h, fun _ _ _ _ h => h, fun _ _ _ _ h => h, fun _ _ _ _ h => h, fun _ _ _ _ h => h, trivial⟩ (odHA rfl) (odi) e_28 fun w hS hM => ?_
          have hS : St _ F0 [Item.tab (α := Int) 27 3 u_7 x_8.1 x_8.2 z_27] _ w0 _ _ := hS
          refine l_end ?_
          cases h
          exact ⟨rfl, hS.weak ⟨od rfl, od rfl, od rfl, od rfl, trivial⟩⟩
        have h := ite_f hb hj_21
        refine wp_skip ?_
        cases h
        exact ⟨rfl, hS.weak ⟨od rfl, odTab rfl, od rfl, od rfl, trivial⟩⟩
      rintro e a w ⟨rfl, hS⟩
      refine exit_block ?_
      refine et ?_
      refine st_reg mixed (by kernel_rfl) hS ?_
      refine mv rfl ?_
      refine cg (sp_add (od rfl) (odi)) ?_
      refine cg (sp_assign (od rfl)) ?_
      refine sn fun a w hS => ?_
      cases h
      exact ⟨_, hN_14 _ rfl, hS.weak ⟨od rfl, od rfl, od rfl, od rfl, trivial⟩⟩
    have h := ite_f hb h
    refine wp_exit ?_
    refine exit_thenE ?_
    cases h
    obtain rfl := hL_14 _ rfl
    have h := hr_16
    refine exit_thenE ?_
    refine exit_here ?_
    refine exit_block ?_
    refine et ?_
    refine st_reg mixed (by kernel_rfl) hS ?_
    refine mv rfl ?_
    refine cg (sp_add (od rfl) (odi)) ?_
    refine cg (sp_assign (od rfl)) ?_
    refine sn fun a w hS => ?_
    cases h
    exact ⟨_, hN_10 _ rfl, hS.weak ⟨od rfl, od rfl, od rfl, trivial⟩⟩
  have h := ite_f hb h
  refine wp_exit ?_
  refine exit_thenE ?_
  cases h
  obtain rfl := hL_10 _ rfl
  have h := hr_12
  refine exit_thenE ?_
  refine exit_here ?_
  refine et ?_
  refine ws ?_
  refine st_reg mixed (by kernel_rfl) hS ?_
  refine mv rfl ?_
  refine cg (sp_assign (od rfl)) ?_
  refine cg (sp_assign (odi)) ?_
  refine sn fun a w hS => ?_
  refine et ?_
  refine wp_ret ?_
  have hS0 := hS
  have hS := st_freezeT 0 4 hS rfl rfl
  have hS := st_also (t := 4) (q := 7) hS0 hS rfl rfl rfl
  have hS := st_also (t := 4) (q := 48) hS0 hS rfl rfl rfl
  cases h
  exact st_ret hS (run_results2 Try.results59 a w) (⟨_, rfl, hS.get rfl, hS.get rfl, trivial⟩)

theorem f60_ok {fuel : Nat} {p0 : List (List Int)} {p1 : List (List Int)} {r : Bool} (h : M.f60 fuel p0 p1 = some r) : CallOK Try.prog 60 [isV p0, isV p1] (isV r) := by
  unfold M.f60 at h
  refine callS_of Try.func60 rfl Try.ntmps60 rfl fun F0 w0 a hS => ?_
  refine ws ?_
  refine st_reg mixed (by kernel_rfl) hS ?_
  refine cg (sp_assign (odb)) ?_
  refine sn fun a w hS => ?_
  refine et ?_
  refine ws ?_
  refine ws ?_
  refine st_reg mixed (by kernel_rfl) hS ?_
  refine mv rfl ?_
  refine cg (sp_len Try.underlying75 (od rfl)) ?_
  refine mv rfl ?_
  refine cg (sp_len Try.underlying75 (od rfl)) ?_
  refine cg (sp_neq (od rfl) (od rfl)) ?_
  refine sn fun a w hS => ?_
  refine et ?_
  refine st_cond hS rfl (fun hb => ?_) (fun hb => ?_)
  · have h := ite_t hb h
    refine ws ?_
    refine st_reg mixed (by kernel_rfl) hS ?_
    refine cg (sp_assign (odb)) ?_
    refine sn fun a w hS => ?_
    refine et ?_
    refine wp_ret ?_
    refine exit_thenR ?_
    cases h
    exact st_ret hS (run_results1 Try.results60 a w) (hS.get rfl)
  have h := ite_f hb h
  refine wp_skip ?_
  refine et ?_
  refine ws ?_
  refine ws ?_
  refine st_reg mixed (by kernel_rfl) hS ?_
  refine cg (sp_assign (odi)) ?_
  refine sn fun a w hS => ?_
  refine et ?_
  refine wp_block ?_
  obtain ⟨o_2, e_3, hr_4⟩ := bind_some h
  refine c_loop (fun K a w => ∃ s_1 : Int, loopM _ K s_1 = some o_2 ∧ St 53 F0 [] [(0, isV (α := List (List Int)) p0), (1, isV (α := List (List Int)) p1), (5, isV (α := Int) s_1)] w0 a w) ?_ ?_ ⟨_, e_3, hS.weak ⟨od rfl, od rfl, od rfl, trivial⟩⟩
  · rintro a w ⟨_, hk, _⟩; cases hk
  rintro K a w ⟨s_1, hF_2, hS⟩
  obtain ⟨o, h, hN_2, hL_2⟩ := loop_more hF_2
  refine ws ?_
  refine ws ?_
  refine st_reg mixed (by kernel_rfl) hS ?_
  refine mv rfl ?_
  refine mv rfl ?_
  refine cg (sp_len Try.underlying75 (od rfl)) ?_
  refine cg (sp_lss (od rfl) (od rfl)) ?_
  refine sn fun a w hS => ?_
  refine et ?_
  refine st_cond hS rfl (fun hb => ?_) (fun hb => ?_)
  · have h := ite_t hb h
    refine wp_skip ?_
    refine et ?_
    refine ws ?_
    refine wp_block ?_
    refine ws ?_
    refine ws ?_
    obtain ⟨v_5, e_6, h⟩ := bind_some h
    obtain ⟨v_7, e_8, h⟩ := bind_some h
    refine st_reg mixed (by kernel_rfl) hS ?_
    refine mv rfl ?_
    refine mv rfl ?_
    refine cg (sp_indexAddr sl75 (od rfl) (od rfl) e_6) ?_
    refine cg (sp_load ty27 (od rfl)) ?_
    refine cg (sp_len Try.underlying27 (od rfl)) ?_
    refine mv rfl ?_
    refine mv rfl ?_
    refine cg (sp_indexAddr sl75 (od rfl) (od rfl) e_8) ?_
    refine cg (sp_load ty27 (od rfl)) ?_
    refine cg (sp_len Try.underlying27 (od rfl)) ?_
    refine cg (sp_neq (od rfl) (od rfl)) ?_
    refine sn fun a w hS => ?_
    refine et ?_
    refine st_cond hS rfl (fun hb => ?_) (fun hb => ?_)
    · have h := ite_t hb h
      refine ws ?_
      refine st_reg mixed (by kernel_rfl) hS ?_
      refine cg (sp_assign (odb)) ?_
      refine sn fun a w hS => ?_
      refine et ?_
      refine wp_ret ?_
      refine exit_thenR ?_
      refine exit_blockR ?_
      refine exit_thenR ?_
      cases h
      obtain rfl := hL_2 _ rfl
      have h := (sum_inr hr_4)
      refine exit_thenR ?_
      refine exit_blockR ?_
      refine exit_thenR ?_
      cases h
      exact st_ret hS (run_results1 Try.results60 a w) (hS.get rfl)
    have h := ite_f hb h
    refine wp_skip ?_
    refine et ?_
    refine ws ?_
    refine st_reg mixed (by kernel_rfl) hS ?_
    refine cg (sp_assign (odi)) ?_
    refine sn fun a w hS => ?_
    refine et ?_
    refine wp_block ?_
    obtain ⟨o_10, e_11, hr_12⟩ := bind_some h
    refine c_loop (fun K a w => ∃ s_9 : Int, loopM _ K s_9 = some o_10 ∧ St 53 F0 [] [(0, isV (α := List (List Int)) p0), (1, isV (α := List (List Int)) p1), (5, isV (α := Int) s_1), (6, isV (α := Int) s_9)] w0 a w) ?_ ?_ ⟨_, e_11, hS.weak ⟨od rfl, od rfl, od rfl, od rfl, trivial⟩⟩
    · rintro a w ⟨_, hk, _⟩; cases hk
    rintro K a w ⟨s_9, hF_10, hS⟩
    obtain ⟨o, h, hN_10, hL_10⟩ := loop_more hF_10
    refine ws ?_
    refine ws ?_
    obtain ⟨v_13, e_14, h⟩ := bind_some h
    refine st_reg mixed (by kernel_rfl) hS ?_
    refine mv rfl ?_
    refine mv rfl ?_
    refine mv rfl ?_
    refine cg (sp_indexAddr sl75 (od rfl) (od rfl) e_14) ?_
    refine cg (sp_load ty27 (od rfl)) ?_
    refine cg (sp_len Try.underlying27 (od rfl)) ?_
    refine cg (sp_lss (od rfl) (od rfl)) ?_
    refine sn fun a w hS => ?_
    refine et ?_
    refine st_cond hS rfl (fun hb => ?_) (fun hb => ?_)
    · have h := ite_t hb h
      refine wp_skip ?_
      refine et ?_
      refine ws ?_
      refine wp_block ?_
      refine ws ?_
      obtain ⟨v_15, e_16, h⟩ := bind_some h
      obtain ⟨v_17, e_18, h⟩ := bind_some h
      obtain ⟨v_19, e_20, h⟩ := bind_some h
      obtain ⟨v_21, e_22, h⟩ := bind_some h
      refine st_reg mixed (by kernel_rfl) hS ?_
      refine mv rfl ?_
      refine mv rfl ?_
      refine cg (sp_indexAddr sl75 (od rfl) (od rfl) e_16) ?_
      refine cg (sp_load ty27 (od rfl)) ?_
      refine mv rfl ?_
      refine cg (sp_indexAddr sl27 (od rfl) (od rfl) e_18) ?_
      refine cg (sp_load ty3 (od rfl)) ?_
      refine mv rfl ?_
      refine mv rfl ?_
      refine cg (sp_indexAddr sl75 (od rfl) (od rfl) e_20) ?_
      refine cg (sp_load ty27 (od rfl)) ?_
      refine mv rfl ?_
      refine cg (sp_indexAddr sl27 (od rfl) (od rfl) e_22) ?_
      refine cg (sp_load ty3 (od rfl)) ?_
      refine cg (sp_neq (od rfl) (od rfl)) ?_
      refine sn fun a w hS => ?_
      refine et ?_
      refine st_cond hS rfl (fun hb => ?_) (fun hb => ?_)
      · have h := ite_t hb h
        refine ws ?_
        refine st_reg mixed (by kernel_rfl) hS ?_
        refine cg (sp_assign (odb)) ?_
        refine sn fun a w hS => ?_
        refine et ?_
        refine wp_ret ?_
        refine exit_blockR ?_
        refine exit_thenR ?_
        cases h
        obtain rfl := hL_10 _ rfl
        have h := (sum_inr hr_12)
        refine exit_thenR ?_
        refine exit_blockR ?_
        refine exit_blockR ?_
        refine exit_thenR ?_
        cases h
        obtain rfl := hL_2 _ rfl
        have h := (sum_inr hr_4)
        refine exit_thenR ?_
        refine exit_blockR ?_
        refine exit_thenR ?_
        cases h
        exact st_ret hS (run_results1 Try.results60 a w) (hS.get rfl)
      have h := ite_f hb h
      refine wp_skip ?_
      refine exit_block ?_
      refine et ?_
      refine st_reg mixed (by kernel_rfl) hS ?_
      refine mv rfl ?_
      refine cg (sp_add (od rfl) (odi)) ?_
      refine cg (sp_assign (od rfl)) ?_
      refine sn fun a w hS => ?_
      cases h
      exact ⟨_, hN_10 _ rfl, hS.weak ⟨od rfl, od rfl, od rfl, od rfl, trivial⟩⟩
    have h := ite_f hb h
    refine wp_exit ?_
    refine exit_thenE ?_
    cases h
    obtain rfl := hL_10 _ rfl
    have h := (sum_inl hr_12)
    refine exit_thenE ?_
    refine exit_here ?_
    refine exit_block ?_
    refine et ?_
    refine st_reg mixed (by kernel_rfl) hS ?_
    refine mv rfl ?_
    refine cg (sp_add (od rfl) (odi)) ?_
    refine cg (sp_assign (od rfl)) ?_
    refine sn fun a w hS => ?_
    cases h
    exact ⟨_, hN_2 _ rfl, hS.weak ⟨od rfl, od rfl, od rfl, trivial⟩⟩
  have h := ite_f hb h
  refine wp_exit ?_
  refine exit_thenE ?_
  cases h
  obtain rfl := hL_2 _ rfl
  have h := (sum_inl hr_4)
  refine exit_thenE ?_
  refine exit_here ?_
  refine et ?_
  refine ws ?_
  refine st_reg mixed (by kernel_rfl) hS ?_
  refine cg (sp_assign (odb)) ?_
  refine sn fun a w hS => ?_
  refine et ?_
  refine wp_ret ?_
  cases h
  exact st_ret hS (run_results1 Try.results60 a w) (hS.get rfl)

theorem f12_ok {fuel : Nat} {p0 : S_api_Market} {p1 : List Int} {p2 : Int} {p3 : Int} {r : Bool} (h : M.f12 fuel p0 p1 p2 p3 = some r) : CallOK Try.prog 12 [isV p0, isV p1, isV p2, isV p3] (isV r) := by
  unfold M.f12 at h
  refine callS_of Try.func12 rfl Try.ntmps12 rfl fun F0 w0 a hS => ?_
  refine ws ?_
  refine st_reg mixed (by kernel_rfl) hS ?_
  refine cg (sp_box (od rfl)) ?_
  refine cg (sp_assign (odb)) ?_
  refine sn fun a w hS => ?_
  refine et ?_
  refine ws ?_
  refine ws ?_
  obtain ⟨v_1, e_2, h⟩ := bind_some h
  refine st_reg mixed (by kernel_rfl) hS ?_
  refine cg (sp_call en16 (f16_ok e_2) trivial) ?_
  refine cg (sp_not (od rfl)) ?_
  refine sn fun a w hS => ?_
  refine et ?_
  refine st_cond hS rfl (fun hb => ?_) (fun hb => ?_)
  · have h := ite_t hb h
    refine ws ?_
    refine st_reg mixed (by kernel_rfl) hS ?_
    refine cg (sp_assign (odb)) ?_
    refine sn fun a w hS => ?_
    refine et ?_
    refine wp_ret ?_
    refine exit_thenR ?_
    cases h
    exact st_ret hS (run_results1 Try.results12 a w) (hS.get rfl)
  have h := ite_f hb h
  refine wp_skip ?_
  refine et ?_
  refine ws ?_
  refine ws ?_
  obtain ⟨v_3, e_4, h⟩ := bind_some h
  obtain ⟨v_5, e_6, h⟩ := bind_some h
  refine st_reg mixed (by kernel_rfl) hS ?_
  refine cg (sp_load ty24 (od rfl)) ?_
  refine cg (sp_call en17 (f17_ok e_4) ⟨od rfl, trivial⟩) ?_
  refine cg (sp_not (od rfl)) ?_
  refine mv rfl ?_
  refine sc (sgF rfl fun hG => sp_move (od rfl)) ?_
  refine sc (sgF rfl fun hG => sp_buildSlice [.tmp 29] ([p1] : List (List Int)) sl75 ze27 rfl rfl rfl rfl ⟨odw rfl hG, trivial⟩) ?_
  refine sc (sgF rfl fun hG => sp_call en55 (f55_ok (guard_some e_6 hG)) ⟨odw rfl hG, trivial⟩) ?_
  refine sc (sgF rfl fun hG => sp_not (odw rfl hG)) ?_
  refine cg (sp_pickOr (od rfl) fun hg => odw rfl (not_t hg)) ?_
  refine sn fun a w hS => ?_
  refine et ?_
  refine st_cond hS rfl (fun hb => ?_) (fun hb => ?_)
  · have h := ite_t hb h
    refine ws ?_
    refine st_reg mixed (by kernel_rfl) hS ?_
    refine cg (sp_assign (odb)) ?_
    refine sn fun a w hS => ?_
    refine et ?_
    refine wp_ret ?_
    refine exit_thenR ?_
    cases h
    exact st_ret hS (run_results1 Try.results12 a w) (hS.get rfl)
  have h := ite_f hb h
  refine wp_skip ?_
  refine et ?_
  refine ws ?_
  obtain ⟨v_7, e_8, h⟩ := bind_some h
  refine st_reg mixed (by kernel_rfl) hS ?_
  refine cg (sp_load ty24 (od rfl)) ?_
  refine mv rfl ?_
  refine mv rfl ?_
  refine mv rfl ?_
  refine cg (sp_call en33 (f33_ok e_8) ⟨od rfl, od rfl, od rfl, od rfl, trivial⟩) ?_
  refine mv rfl ?_
  refine cg (sp_extract (od rfl) rfl) ?_
  refine cg (sp_extract (od rfl) rfl) ?_
  refine cg (sp_extract (od rfl) rfl) ?_
  refine cg (sp_assign (od rfl)) ?_
  refine cg (sp_assign (od rfl)) ?_
  refine cg (sp_assign (od rfl)) ?_
  refine sn fun a w hS => ?_
  refine et ?_
  refine ws ?_
  obtain ⟨v_9, e_10, h⟩ := bind_some h
  refine st_reg mixed (by kernel_rfl) hS ?_
  refine cg (sp_load ty24 (od rfl)) ?_
  refine mv rfl ?_
  refine mv rfl ?_
  refine mv rfl ?_
  refine cg (sp_call en56 (f56_ok e_10) ⟨od rfl, od rfl, od rfl, od rfl, trivial⟩) ?_
  refine mv rfl ?_
  refine cg (sp_extract (od rfl) rfl) ?_
  refine cg (sp_extract (od rfl) rfl) ?_
  refine cg (sp_extract (od rfl) rfl) ?_
  refine cg (sp_assign (od rfl)) ?_
  refine cg (sp_assign (od rfl)) ?_
  refine cg (sp_assign (od rfl)) ?_
  refine sn fun a w hS => ?_
  refine et ?_
  refine ws ?_
  obtain ⟨v_11, e_12, h⟩ := bind_some h
  refine st_reg mixed (by kernel_rfl) hS ?_
  refine cg (sp_load ty24 (od rfl)) ?_
  refine mv rfl ?_
  refine cg (sp_call en37 (f37_ok e_12) ⟨od rfl, od rfl, trivial⟩) ?_
  refine mv rfl ?_
  refine cg (sp_extract (od rfl) rfl) ?_
  refine cg (sp_extract (od rfl) rfl) ?_
  refine cg (sp_assign (od rfl)) ?_
  refine cg (sp_assign (od rfl)) ?_
  refine sn fun a w hS => ?_
  refine et ?_
  refine ws ?_
  obtain ⟨v_13, e_14, h⟩ := bind_some h
  refine st_reg mixed (by kernel_rfl) hS ?_
  refine cg (sp_load ty24 (od rfl)) ?_
  refine mv rfl ?_
  refine cg (sp_call en57 (f57_ok e_14) ⟨od rfl, od rfl, trivial⟩) ?_
  refine mv rfl ?_
  refine cg (sp_extract (od rfl) rfl) ?_
  refine cg (sp_extract (od rfl) rfl) ?_
  refine cg (sp_assign (od rfl)) ?_
  refine cg (sp_assign (od rfl)) ?_
  refine sn fun a w hS => ?_
  refine et ?_
  refine ws ?_
  obtain ⟨v_15, e_16, h⟩ := bind_some h
  refine st_reg mixed (by kernel_rfl) hS ?_
  refine cg (sp_load ty24 (od rfl)) ?_
  refine mv rfl ?_
  refine cg (sp_call en58 (f58_ok e_16) ⟨od rfl, od rfl, trivial⟩) ?_
  refine mv rfl ?_
  refine cg (sp_extract (od rfl) rfl) ?_
  refine cg (sp_extract (od rfl) rfl) ?_
  refine cg (sp_assign (od rfl)) ?_
  refine cg (sp_assign (od rfl)) ?_
  refine sn fun a w hS => ?_
  refine et ?_
  refine ws ?_
  obtain ⟨v_17, e_18, h⟩ := bind_some h
  refine st_reg mixed (by kernel_rfl) hS ?_
  refine cg (sp_load ty24 (od rfl)) ?_
  refine mv rfl ?_
  refine cg (sp_call en59 (f59_ok e_18) ⟨od rfl, od rfl, trivial⟩) ?_
  refine mv rfl ?_
  refine cg (sp_extract (od rfl) rfl) ?_
  refine cg (sp_extract (od rfl) rfl) ?_
  refine cg (sp_assign (od rfl)) ?_
  refine cg (sp_assign (od rfl)) ?_
  refine sn fun a w hS => ?_
  refine et ?_
  refine ws ?_
  obtain ⟨v_19, e_20, h⟩ := bind_some h
  obtain ⟨v_21, e_22, h⟩ := bind_some h
  obtain ⟨v_23, e_24, h⟩ := bind_some h
  refine st_reg mixed (by kernel_rfl) hS ?_
  refine cg (sp_load ty24 (od rfl)) ?_
  refine cg (sp_call en41 (f41_ok e_20) ⟨od rfl, trivial⟩) ?_
  refine cg (sp_load ty24 (od rfl)) ?_
  refine cg (sp_call en42 (f42_ok e_22) ⟨od rfl, trivial⟩) ?_
  refine cg (sp_eql (od rfl) (od rfl)) ?_
  refine mv rfl ?_
  refine sc (sgT rfl fun hG => sp_move (od rfl)) ?_
  refine sc (sgT rfl fun hG => sp_move (od rfl)) ?_
  refine sc (sgT rfl fun hG => sp_eql (odw rfl hG) (odw rfl hG)) ?_
  refine cg (sp_pickAnd (od rfl) fun hg => odw rfl hg) ?_
  refine mv rfl ?_
  refine sc (sgT rfl fun hG => sp_move (od rfl)) ?_
  refine sc (sgT rfl fun hG => sp_move (od rfl)) ?_
  refine sc (sgT rfl fun hG => sp_eqlB Try.underlying4 (odw rfl hG) (odw rfl hG)) ?_
  refine cg (sp_pickAnd (od rfl) fun hg => odw rfl hg) ?_
  refine mv rfl ?_
  refine sc (sgT rfl fun hG => sp_move (od rfl)) ?_
  refine sc (sgT rfl fun hG => sp_move (od rfl)) ?_
  refine sc (sgT rfl fun hG => sp_eql (odw rfl hG) (odw rfl hG)) ?_
  refine cg (sp_pickAnd (od rfl) fun hg => odw rfl hg) ?_
  refine mv rfl ?_
  refine sc (sgT rfl fun hG => sp_move (od rfl)) ?_
  refine sc (sgT rfl fun hG => sp_move (od rfl)) ?_
  refine sc (sgT rfl fun hG => sp_eql (odw rfl hG) (odw rfl hG)) ?_
  refine cg (sp_pickAnd (od rfl) fun hg => odw rfl hg) ?_
  refine mv rfl ?_
  refine sc (sgT rfl fun hG => sp_move (od rfl)) ?_
  refine sc (sgT rfl fun hG => sp_move (od rfl)) ?_
  refine sc (sgT rfl fun hG => sp_eql (odw rfl hG) (odw rfl hG)) ?_
  refine cg (sp_pickAnd (od rfl) fun hg => odw rfl hg) ?_
  refine mv rfl ?_
  refine sc (sgT rfl fun hG => sp_move (od rfl)) ?_
  refine sc (sgT rfl fun hG => sp_move (od rfl)) ?_
  refine sc (sgT rfl fun hG => sp_call en60 (f60_ok (guard_some e_24 hG)) ⟨odw rfl hG, odw rfl hG, trivial⟩) ?_
  refine cg (sp_pickAnd (od rfl) fun hg => odw rfl hg) ?_
  refine mv rfl ?_
  refine sc (sgT rfl fun hG => sp_move (od rfl)) ?_
  refine sc (sgT rfl fun hG => sp_move (od rfl)) ?_
  refine sc (sgT rfl fun hG => sp_eql (odw rfl hG) (odw rfl hG)) ?_
  refine cg (sp_pickAnd (od rfl) fun hg => odw rfl hg) ?_
  refine cg (sp_assign (od rfl)) ?_
  refine sn fun a w hS => ?_
  refine et ?_
  refine wp_ret ?_
  cases h
  exact st_ret hS (run_results1 Try.results12 a w) (hS.get rfl)

end Go.Proofs.Ytkbilbeaedocjaa
