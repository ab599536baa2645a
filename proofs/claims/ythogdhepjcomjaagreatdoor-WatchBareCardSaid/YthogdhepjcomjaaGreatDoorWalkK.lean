/-
  What is proved: each Go function named here returns what its model tells, and changes nothing that was there; where the model tells something.
-/
import Derived.Test.YthogdhepjcomjaaGreatDoorWalkH
import Derived.Test.YthogdhepjcomjaaGreatDoorModelK
set_option linter.unusedVariables false
set_option maxRecDepth 100000
namespace Go.Proofs.YthogdhepjcomjaaGreatDoor
open Go Go.RowKit Go.Proofs.YthogdhepjcomjaaGreatDoor.Wh

theorem f107_ok {fuel : Nat} {p0 : S_api_Roster} {p1 : Int} {p2 : List Int} {r : Int} (h : M.f107 fuel p0 p1 p2 = some r) : CallOK Tryz.prog 107 [isV p0, isV p1, isV p2] (isV r) := by
  unfold M.f107 at h
  refine callS_of Tryz.func107 rfl Tryz.ntmps107 rfl fun F0 w0 a hS => ?_
  refine ws ?_
  refine st_reg mixed (by kernel_rfl) hS ?_
  refine cg (sp_box (od rfl)) ?_
  refine cg (sp_assign (odi)) ?_
  refine sn fun a w hS => ?_
  refine et ?_
  refine ws ?_
  obtain ⟨v_1, e_2, h⟩ := bind_some h
  refine st_reg mixed (by kernel_rfl) hS ?_
  refine cg (sp_load ty25 (od rfl)) ?_
  refine mv rfl ?_
  refine cg (sp_call en75 (f75_ok e_2) ⟨od rfl, od rfl, trivial⟩) ?_
  refine cg (sp_assign (od rfl)) ?_
  refine sn fun a w hS => ?_
  refine et ?_
  refine ws ?_
  refine ws ?_
  refine st_reg mixed (by kernel_rfl) hS ?_
  refine mv rfl ?_
  refine cg (sp_neq (od rfl) (odi)) ?_
  refine sn fun a w hS => ?_
  refine et ?_
  refine st_cond hS rfl (fun hb => ?_) (fun hb => ?_)
  · have h := ite_t hb h
    refine ws ?_
    refine st_reg mixed (by kernel_rfl) hS ?_
    refine mv rfl ?_
    refine cg (sp_assign (od rfl)) ?_
    refine sn fun a w hS => ?_
    refine et ?_
    refine wp_ret ?_
    refine exit_thenR ?_
    cases h
    exact st_ret hS (run_results1 Tryz.results107 a w) (hS.get rfl)
  have h := ite_f hb h
  refine wp_skip ?_
  refine et ?_
  refine ws ?_
  refine ws ?_
  obtain ⟨v_3, e_4, h⟩ := bind_some h
  refine st_reg mixed (by kernel_rfl) hS ?_
  refine cg (sp_load ty25 (od rfl)) ?_
  refine mv rfl ?_
  refine mv rfl ?_
  refine cg (sp_call en96 (f96_ok e_4) ⟨od rfl, od rfl, od rfl, trivial⟩) ?_
  refine cg (sp_not (od rfl)) ?_
  refine sn fun a w hS => ?_
  refine et ?_
  refine st_cond hS rfl (fun hb => ?_) (fun hb => ?_)
  · have h := ite_t hb h
    refine ws ?_
    refine st_reg mixed (by kernel_rfl) hS ?_
    refine cg (sp_assign (odi)) ?_
    refine sn fun a w hS => ?_
    refine et ?_
    refine wp_ret ?_
    refine exit_thenR ?_
    cases h
    exact st_ret hS (run_results1 Tryz.results107 a w) (hS.get rfl)
  have h := ite_f hb h
  refine wp_skip ?_
  refine et ?_
  refine ws ?_
  refine ws ?_
  refine st_reg mixed (by kernel_rfl) hS ?_
  refine mv rfl ?_
  refine cg (sp_len Tryz.underlying26 (od rfl)) ?_
  refine cg (sp_gtr (od rfl) (odi)) ?_
  refine sn fun a w hS => ?_
  refine et ?_
  refine st_cond hS rfl (fun hb => ?_) (fun hb => ?_)
  · have h := ite_t hb h
    refine ws ?_
    refine st_reg mixed (by kernel_rfl) hS ?_
    refine cg (sp_assign (odi)) ?_
    refine sn fun a w hS => ?_
    refine et ?_
    refine wp_ret ?_
    refine exit_thenR ?_
    cases h
    exact st_ret hS (run_results1 Tryz.results107 a w) (hS.get rfl)
  have h := ite_f hb h
  refine wp_skip ?_
  refine et ?_
  refine ws ?_
  refine st_reg mixed (by kernel_rfl) hS ?_
  refine cg (sp_assign (odi)) ?_
  refine sn fun a w hS => ?_
  refine et ?_
  refine wp_ret ?_
  cases h
  exact st_ret hS (run_results1 Tryz.results107 a w) (hS.get rfl)

theorem f108_ok {fuel : Nat} {p0 : List (List Int)} {p1 : Int} {p2 : Int} {p3 : Int} {r : (List (List Int)) × Bool} (h : M.f108 fuel p0 p1 p2 p3 = some r) : CallOK Tryz.prog 108 [isV p0, isV p1, isV p2, isV p3] (isTup [isV r.1, isV r.2]) := by
  unfold M.f108 at h
  refine callS_of Tryz.func108 rfl Tryz.ntmps108 rfl fun F0 w0 a hS => ?_
  refine ws ?_
  refine st_reg mixed (by kernel_rfl) hS ?_
  refine cg (sp_assign (odnil (α := List Int))) ?_
  refine cg (sp_assign (odb)) ?_
  refine sn fun a w hS => ?_
  refine et ?_
  refine ws ?_
  refine st_reg mixed (by kernel_rfl) hS ?_
  refine mv rfl ?_
  refine cg (sp_len Tryz.underlying22 (od rfl)) ?_
  refine cg (sp_assign (od rfl)) ?_
  refine sn fun a w hS => ?_
  refine et ?_
  refine ws ?_
  refine st_reg mixed (by kernel_rfl) hS ?_
  refine cg (sp_assign (φ := Pr.is (.slice none 0 0)) (odc fun _ => rfl)) ?_
  refine sn fun a w hS => ?_
  have hS := st_nil (α := List Int) 26 hS
  have hS : St _ F0 [Item.sl (α := List Int) 26 (.slice none 0 0) ([] : List (List Int))] _ w0 _ _ := hS
  refine et ?_
  refine ws ?_
  refine ws ?_
  refine st_reg mixed (by kernel_rfl) hS ?_
  refine cg (sp_assign (odi)) ?_
  refine sn fun a w hS => ?_
  refine et ?_
  refine wp_block ?_
  obtain ⟨o_2, e_3, hr_4⟩ := bind_some h
  refine c_loop (fun K a w => ∃ s_1 : Int × (List (List Int)), ∃ u_5 : Value, loopM _ K s_1 = some o_2 ∧ St 74 F0 [Item.sl (α := List Int) 26 u_5 s_1.2] [(0, isV (α := List (List Int)) p0), (1, isV (α := Int) p1), (2, isV (α := Int) p2), (3, isV (α := Int) p3), (10, isV (α := Int) (p0.length : Int)), (11, Pr.is u_5), (12, isV (α := Int) s_1.1)] w0 a w) ?_ ?_ ⟨_, (.slice none 0 0), e_3, hS.weak ⟨od rfl, od rfl, od rfl, od rfl, od rfl, od rfl, od rfl, trivial⟩⟩
  · rintro a w ⟨_, _, hk, _⟩; cases hk
  rintro K a w ⟨s_1, u_5, hF_2, hS⟩
  obtain ⟨o, h, hN_2, hL_2⟩ := loop_more hF_2
  refine ws ?_
  refine ws ?_
  refine st_reg mixed (by kernel_rfl) hS ?_
  refine mv rfl ?_
  refine mv rfl ?_
  refine cg (sp_lss (od rfl) (od rfl)) ?_
  refine sn fun a w hS => ?_
  refine et ?_
  refine st_cond hS rfl (fun hb => ?_) (fun hb => ?_)
  · have h := ite_t hb h
    refine wp_skip ?_
    refine et ?_
    refine ws ?_
    refine wp_block ?_
    refine ws ?_
    refine st_reg mixed (by kernel_rfl) hS ?_
    refine cg (sp_assign (φ := Pr.is (.slice none 0 0)) (odc fun _ => rfl)) ?_
    refine sn fun a w hS => ?_
    have hS := st_nil (α := Int) 3 hS
    have hS : St _ F0 [Item.sl (α := List Int) 26 u_5 s_1.2, Item.sl (α := Int) 3 (.slice none 0 0) ([] : List Int)] _ w0 _ _ := hS
    refine et ?_
    refine ws ?_
    refine ws ?_
    refine st_reg mixed (by kernel_rfl) hS ?_
    refine cg (sp_assign (odi)) ?_
    refine sn fun a w hS => ?_
    refine et ?_
    refine wp_block ?_
    obtain ⟨o_7, e_8, hr_9⟩ := bind_some h
    refine c_loop (fun K a w => ∃ s_6 : Int × (List Int), ∃ u_10 : Value, loopM _ K s_6 = some o_7 ∧ St 74 F0 [Item.sl (α := List Int) 26 u_5 s_1.2, Item.sl (α := Int) 3 u_10 s_6.2] [(0, isV (α := List (List Int)) p0), (1, isV (α := Int) p1), (2, isV (α := Int) p2), (3, isV (α := Int) p3), (10, isV (α := Int) (p0.length : Int)), (11, Pr.is u_5), (12, isV (α := Int) s_1.1), (13, Pr.is u_10), (14, isV (α := Int) s_6.1)] w0 a w) ?_ ?_ ⟨_, (.slice none 0 0), e_8, hS.weak ⟨od rfl, od rfl, od rfl, od rfl, od rfl, od rfl, od rfl, od rfl, od rfl, trivial⟩⟩
    · rintro a w ⟨_, _, hk, _⟩; cases hk
    rintro K a w ⟨s_6, u_10, hF_7, hS⟩
    obtain ⟨o, h, hN_7, hL_7⟩ := loop_more hF_7
    refine ws ?_
    refine ws ?_
    refine st_reg mixed (by kernel_rfl) hS ?_
    refine mv rfl ?_
    refine mv rfl ?_
    refine cg (sp_lss (od rfl) (od rfl)) ?_
    refine sn fun a w hS => ?_
    refine et ?_
    refine st_cond hS rfl (fun hb => ?_) (fun hb => ?_)
    · have h := ite_t hb h
      refine wp_skip ?_
      refine et ?_
      refine ws ?_
      refine wp_block ?_
      obtain ⟨v_11, e_12, h⟩ := bind_some h
      obtain ⟨v_13, e_14, h⟩ := bind_some h
      obtain ⟨v_15, e_16, h⟩ := bind_some h
      obtain ⟨v_17, e_18, h⟩ := bind_some h
      obtain ⟨v_19, e_20, h⟩ := bind_some h
      obtain ⟨v_21, e_22, h⟩ := bind_some h
      obtain ⟨z_23, e_24, h⟩ := bind_some h
      refine st_float mixed [0, 0, 0, 0, 0, 0, 0, 0, 0, 0, 0, 0, 0, 0, 0, 0, 0, 0, 0, 0, 0, 0, 0, 0, 0, 0, 0, 2, 2] (by kernel_rfl) (by kernel_rfl) hS ?_
      refine sfA (sg (sp_move (od rfl))) ?_
      refine sfA (sg (sp_move (od rfl))) ?_
      refine sfA (sg (sp_move (od rfl))) ?_
      refine sfA (sg (sp_indexAddr sl22 (od rfl) (od rfl) e_12)) ?_
      refine sfA (sg (sp_load ty26 (od rfl))) ?_
      refine sfA (sg (sp_move (od rfl))) ?_
      refine sfA (sg (sp_indexAddr sl26 (od rfl) (od rfl) e_14)) ?_
      refine sfA (sg (sp_load ty3 (od rfl))) ?_
      refine sfA (sg (sp_move (od rfl))) ?_
      refine sfA (sg (sp_move (od rfl))) ?_
      refine sfA (sg (sp_indexAddr sl22 (od rfl) (od rfl) e_16)) ?_
      refine sfA (sg (sp_load ty26 (od rfl))) ?_
      refine sfA (sg (sp_move (od rfl))) ?_
      refine sfA (sg (sp_indexAddr sl26 (od rfl) (od rfl) e_18)) ?_
      refine sfA (sg (sp_load ty3 (od rfl))) ?_
      refine sfA (sg (sp_move (od rfl))) ?_
      refine sfA (sg (sp_add (od rfl) (od rfl))) ?_
      refine sfA (sg (sp_move (od rfl))) ?_
      refine sfA (sg (sp_move (od rfl))) ?_
      refine sfA (sg (sp_indexAddr sl22 (od rfl) (od rfl) e_20)) ?_
      refine sfA (sg (sp_load ty26 (od rfl))) ?_
      refine sfA (sg (sp_move (od rfl))) ?_
      refine sfA (sg (sp_indexAddr sl26 (od rfl) (od rfl) e_22)) ?_
      refine sfA (sg (sp_load ty3 (od rfl))) ?_
      refine sfA (sg (sp_add (od rfl) (od rfl))) ?_
      refine sfA (sg (sp_min (od rfl) (od rfl))) ?_
      refine sfA (sg (sp_buildSlice [.tmp 53] ([(imin v_13 (wr ((wr (v_17 + p3)) + v_21)))] : List Int) sl26 ze3 rfl rfl rfl rfl ⟨od rfl, trivial⟩)) ?_
      refine sfT ?_
      refine sfT ?_
      refine sfN fun c a w hS hC => ?_
      refine ls ?_
      refine s_append (k := 1) (Δ := [(0, isV (α := List (List Int)) p0), (1, isV (α := Int) p1), (2, isV (α := Int) p2), (3, isV (α := Int) p3), (10, isV (α := Int) (p0.length : Int)), (11, Pr.is u_5), (12, isV (α := Int) s_1.1), (14, isV (α := Int) s_6.1), (28, Pr.is u_10), (54, isV (α := List Int) ([(imin v_13 (wr ((wr (v_17 + p3)) + v_21)))] : List Int))]) sl26 ze3 hS rfl ⟨od rfl, od rfl, od rfl, od rfl, od rfl, od rfl, od rfl, od rfl, od rfl, od rfl, trivial⟩ ⟨fun _ _ _ _ h => h, fun _ _ _ _ h => h, fun _ _ _ _ h => h, fun _ _ _ _ h => h, fun _ _ _ _ h => h, fun _ _ _ _ h => h, fun _ _ _ _ h => h, fun _ _ _ _ h => h, fun _ _ _ _ h => h, fun _ _ _ _ h => h, trivial⟩ (od rfl) (od rfl) e_24 rfl fun a w u_25 hS hM => ?_
      have hS : St _ F0 [Item.sl (α := List Int) 26 u_5 s_1.2, Item.sl (α := Int) 3 u_25 z_23] _ w0 _ _ := hS
      have hC := Mem.le_trans hC hM
      refine s_next hC ?_
      refine ls ?_
      refine s_c hS (sg (sp_assign (od rfl))) rfl fun a w hS hM => ?_
      have hC := Mem.le_trans hC hM
      refine s_next hC ?_
      refine s_done ?_
      refine exit_block ?_
      refine et ?_
      refine st_reg mixed (by kernel_rfl) hS ?_
      refine mv rfl ?_
      refine cg (sp_add (od rfl) (odi)) ?_
      refine cg (sp_assign (od rfl)) ?_
      refine sn fun a w hS => ?_
      cases h
      exact ⟨_, u_25, hN_7 _ rfl, hS.weak ⟨od rfl, od rfl, od rfl, od rfl, od rfl, od rfl, od rfl, od rfl, od rfl, trivial⟩⟩
    have h := ite_f hb h
    refine wp_exit ?_
    refine exit_thenE ?_
    cases h
    obtain rfl := hL_7 _ rfl
    have h := hr_9
    refine exit_thenE ?_
    refine exit_here ?_
    refine et ?_
    have hS := st_freeze 1 13 hS rfl rfl
    obtain ⟨z_26, e_27, h⟩ := bind_some h
    refine l_start ?_
    refine s_c hS (sg (sp_move (od rfl))) rfl fun a w hS hM => ?_
    refine s_c hS (sg (sp_move (od rfl))) rfl fun a w hS hM => ?_
    refine s_c hS (sg (sp_buildSlice [.tmp 57] ([s_6.2] : List (List Int)) sl22 ze26 rfl rfl rfl rfl ⟨od rfl, trivial⟩)) rfl fun a w hS hM => ?_
    refine s_append (k := 0) (Δ := [(0, isV (α := List (List Int)) p0), (1, isV (α := Int) p1), (2, isV (α := Int) p2), (3, isV (α := Int) p3), (10, isV (α := Int) (p0.length : Int)), (12, isV (α := Int) s_1.1), (56, Pr.is u_5), (58, isV (α := List (List Int)) ([s_6.2] : List (List Int)))]) sl22 ze26 hS rfl ⟨od rfl, od rfl, od rfl, od rfl, od rfl, od rfl, od rfl, od rfl, trivial⟩ ⟨fun _ _ _ _ h => h, fun _ _ _ _ h => h, fun _ _ _ _ h => h, fun _ _ _ _ h => h, fun _ _ _ _ h => h, fun _ _ _ _ h => h, fun _ _ _ _ h => h, fun _ _ _ _ h => h, trivial⟩ (od rfl) (od rfl) e_27 rfl fun a w u_28 hS hM => ?_
    have hS : St _ F0 [Item.sl (α := List Int) 26 u_28 z_26] _ w0 _ _ := hS
    refine s_c hS (sg (sp_assign (od rfl))) rfl fun a w hS hM => ?_
    refine l_end ?_
    refine exit_block ?_
    refine et ?_
    refine st_reg mixed (by kernel_rfl) hS ?_
    refine mv rfl ?_
    refine cg (sp_add (od rfl) (odi)) ?_
    refine cg (sp_assign (od rfl)) ?_
    refine sn fun a w hS => ?_
    cases h
    exact ⟨_, u_28, hN_2 _ rfl, hS.weak ⟨od rfl, od rfl, od rfl, od rfl, od rfl, od rfl, od rfl, trivial⟩⟩
  have h := ite_f hb h
  refine wp_exit ?_
  refine exit_thenE ?_
  cases h
  obtain rfl := hL_2 _ rfl
  have h := hr_4
  refine exit_thenE ?_
  refine exit_here ?_
  refine et ?_
  refine ws ?_
  refine ws ?_
  refine st_reg mixed (by kernel_rfl) hS ?_
  refine cg (sp_assign (odi)) ?_
  refine sn fun a w hS => ?_
  refine et ?_
  refine wp_block ?_
  obtain ⟨o_34, e_35, hr_36⟩ := bind_some h
  refine c_loop (fun K a w => ∃ s_33 : Int, loopM _ K s_33 = some o_34 ∧ St 74 F0 [Item.sl (α := List Int) 26 u_5 s_1.2] [(10, isV (α := Int) (p0.length : Int)), (11, Pr.is u_5), (15, isV (α := Int) s_33)] w0 a w) ?_ ?_ ⟨_, e_35, hS.weak ⟨od rfl, od rfl, od rfl, trivial⟩⟩
  · rintro a w ⟨_, hk, _⟩; cases hk
  rintro K a w ⟨s_33, hF_34, hS⟩
  obtain ⟨o, h, hN_34, hL_34⟩ := loop_more hF_34
  refine ws ?_
  refine ws ?_
  refine st_reg mixed (by kernel_rfl) hS ?_
  refine mv rfl ?_
  refine mv rfl ?_
  refine cg (sp_lss (od rfl) (od rfl)) ?_
  refine sn fun a w hS => ?_
  refine et ?_
  refine st_cond hS rfl (fun hb => ?_) (fun hb => ?_)
  · have h := ite_t hb h
    refine wp_skip ?_
    refine et ?_
    refine ws ?_
    refine wp_block ?_
    refine ws ?_
    have hS := st_os 0 11 hS rfl rfl
    obtain ⟨v_37, e_38, h⟩ := bind_some h
    obtain ⟨v_39, e_40, h⟩ := bind_some h
    refine st_reg mixed (by kernel_rfl) hS ?_
    refine mv rfl ?_
    refine mv rfl ?_
    refine cg (sp_indexAddrOS sl22 (od rfl) (od rfl) e_38) ?_
    refine cg (sp_loadEA ty26 (od rfl)) ?_
    refine mv rfl ?_
    refine cg (sp_indexAddr sl26 (od rfl) (od rfl) e_40) ?_
    refine cg (sp_load ty3 (od rfl)) ?_
    refine cg (sp_lss (od rfl) (odi)) ?_
    refine sn fun a w hS => ?_
    refine et ?_
    refine st_cond hS rfl (fun hb => ?_) (fun hb => ?_)
    · have h := ite_t hb h
      refine ws ?_
      have hS := st_drop 0 hS
      refine st_reg mixed (by kernel_rfl) hS ?_
      refine cg (sp_assign (odnil (α := List Int))) ?_
      refine cg (sp_assign (odb)) ?_
      refine sn fun a w hS => ?_
      refine et ?_
      refine wp_ret ?_
      refine exit_blockR ?_
      refine exit_thenR ?_
      cases h
      obtain rfl := hL_34 _ rfl
      have h := (sum_inr hr_36)
      refine exit_thenR ?_
      refine exit_blockR ?_
      refine exit_thenR ?_
      cases h
      exact st_ret hS (run_results2 Tryz.results108 a w) (⟨_, rfl, hS.get rfl, hS.get rfl, trivial⟩)
    have h := ite_f hb h
    refine wp_skip ?_
    refine exit_block ?_
    refine et ?_
    refine st_reg mixed (by kernel_rfl) hS ?_
    refine mv rfl ?_
    refine cg (sp_add (od rfl) (odi)) ?_
    refine cg (sp_assign (od rfl)) ?_
    refine sn fun a w hS => ?_
    cases h
    exact ⟨_, hN_34 _ rfl, hS.weak ⟨od rfl, odOS rfl, od rfl, trivial⟩⟩
  have h := ite_f hb h
  refine wp_exit ?_
  refine exit_thenE ?_
  cases h
  obtain rfl := hL_34 _ rfl
  have h := (sum_inl hr_36)
  refine exit_thenE ?_
  refine exit_here ?_
  refine et ?_
  refine ws ?_
  refine st_reg mixed (by kernel_rfl) hS ?_
  refine mv rfl ?_
  refine cg (sp_assign (od rfl)) ?_
  refine cg (sp_assign (odb)) ?_
  refine sn fun a w hS => ?_
  refine et ?_
  refine wp_ret ?_
  have hS0 := hS
  have hS := st_freeze 0 8 hS rfl rfl
  have hS := st_also (t := 8) (q := 11) hS0 hS rfl rfl rfl
  have hS := st_also (t := 8) (q := 73) hS0 hS rfl rfl rfl
  cases h
  exact st_ret hS (run_results2 Tryz.results108 a w) (⟨_, rfl, hS.get rfl, hS.get rfl, trivial⟩)

theorem f109_ok {fuel : Nat} : ∀ {p0 : S_api_Roster} {p1 : List (List Int)} {p2 : List Int} {r : Bool}, M.f109 fuel p0 p1 p2 = some r → CallOK Tryz.prog 109 [isV p0, isV p1, isV p2] (isV r) := by
  induction fuel with
  | zero => intro _ _ _ r h; cases h
  | succ fuel ih =>
    intro p0 p1 p2 r h
    unfold M.f109 at h
    refine callS_of Tryz.func109 rfl Tryz.ntmps109 rfl fun F0 w0 a hS => ?_
    refine ws ?_
    refine st_reg mixed (by kernel_rfl) hS ?_
    refine cg (sp_box (od rfl)) ?_
    refine cg (sp_assign (odb)) ?_
    refine sn fun a w hS => ?_
    refine et ?_
    refine ws ?_
    refine ws ?_
    refine st_reg mixed (by kernel_rfl) hS ?_
    refine mv rfl ?_
    refine cg (sp_len Tryz.underlying26 (od rfl)) ?_
    refine cg (sp_eql (od rfl) (odi)) ?_
    refine sn fun a w hS => ?_
    refine et ?_
    refine st_cond hS rfl (fun hb => ?_) (fun hb => ?_)
    · have h := ite_t hb h
      refine ws ?_
      refine st_reg mixed (by kernel_rfl) hS ?_
      refine cg (sp_assign (odb)) ?_
      refine sn fun a w hS => ?_
      refine et ?_
      refine wp_ret ?_
      refine exit_thenR ?_
      cases h
      exact st_ret hS (run_results1 Tryz.results109 a w) (hS.get rfl)
    have h := ite_f hb h
    refine wp_skip ?_
    refine et ?_
    refine ws ?_
    obtain ⟨v_1, e_2, h⟩ := bind_some h
    obtain ⟨v_3, e_4, h⟩ := bind_some h
    have hS := hS.weak (Δ := [(0, isV (α := S_api_Roster) p0), (1, isV (α := List (List Int)) p1), (2, isV (α := List Int) p2), (3, isA (α := S_api_Roster) p0), (6, isV (α := Bool) false), (13, isV (α := List Int) p2), (14, isV (α := Int) (p2.length : Int)), (15, isV (α := Bool) ((p2.length : Int) == 0))]) ⟨od rfl, od rfl, od rfl, od rfl, od rfl, od rfl, od rfl, od rfl, trivial⟩
    refine st_pairs mixed [0, 0, 0, 0, 0, 0, 0, 3, 4] [⟨7, 8, 7, 45, S_api_Turn, inferInstance, ((0, 0, 0, 0, 0, 0) : S_api_Turn), v_3⟩] (by kernel_rfl) (by kernel_rfl) hS ⟨fun _ _ _ _ h => h, fun _ _ _ _ h => h, fun _ _ _ _ h => h, fun _ _ _ _ h => h, fun _ _ _ _ h => h, fun _ _ _ _ h => h, fun _ _ _ _ h => h, fun _ _ _ _ h => h, trivial⟩ ?_
    refine sq0 (fun _ _ _ _ h => h) (sg (sp_fieldAddr fd25_4 (od rfl))) ?_
    refine sq0 (fun _ _ _ _ h => h) (sg (sp_load ty23 (od rfl))) ?_
    refine sq0 (fun _ _ _ _ h => h) (sg (sp_move (od rfl))) ?_
    refine sq0 (fun _ _ _ _ h => h) (sg (sp_indexAddr sl26 (od rfl) (odi) e_2)) ?_
    refine sq0 (fun _ _ _ _ h => h) (sg (sp_load ty3 (od rfl))) ?_
    refine sq0 (fun _ _ _ _ h => h) (sg (sp_indexAddr sl23 (od rfl) (od rfl) e_4)) ?_
    refine sq0 (fun _ _ _ _ h => h) (sg (sp_load ty45 (od rfl))) ?_
    refine sqA 0 rfl zi45 ?_
    refine sqS 0 rfl ty45 (od rfl) ?_
    refine sqN fun a w bs hl hS => ?_
    obtain ⟨b_5, rfl⟩ := len1 hl
    have hS : St _ F0 [Item.box (α := S_api_Turn) 45 b_5 (v_3 : S_api_Turn)] ((7, Pr.ptr b_5) :: _) w0 _ _ := hS
    have hS := st_freezeB 0 7 hS rfl rfl
    refine et ?_
    refine ws ?_
    refine st_reg mixed (by kernel_rfl) hS ?_
    refine cg (sp_fieldAddr fd25_3 (od rfl)) ?_
    refine cg (sp_load ty22 (od rfl)) ?_
    refine cg (sp_len Tryz.underlying22 (od rfl)) ?_
    refine cg (sp_assign (od rfl)) ?_
    refine sn fun a w hS => ?_
    refine et ?_
    refine ws ?_
    obtain ⟨v_6, e_7, h⟩ := bind_some h
    refine st_reg mixed (by kernel_rfl) hS ?_
    refine mv rfl ?_
    refine cg (sp_fieldAddr fd45_1 (od rfl)) ?_
    refine cg (sp_load ty3 (od rfl)) ?_
    refine mv rfl ?_
    refine cg (sp_fieldAddr fd45_2 (od rfl)) ?_
    refine cg (sp_load ty3 (od rfl)) ?_
    refine cg (sp_sub (od rfl) (odi)) ?_
    refine cg (sp_call en108 (f108_ok e_7) ⟨od rfl, od rfl, od rfl, od rfl, trivial⟩) ?_
    refine mv rfl ?_
    refine cg (sp_extract (od rfl) rfl) ?_
    refine cg (sp_extract (od rfl) rfl) ?_
    refine cg (sp_assign (od rfl)) ?_
    refine cg (sp_assign (od rfl)) ?_
    refine sn fun a w hS => ?_
    refine et ?_
    refine ws ?_
    refine ws ?_
    obtain ⟨z_8, e_9, h⟩ := bind_some h
    obtain ⟨v_10, e_11, h⟩ := bind_some h
    refine st_reg mixed (by kernel_rfl) hS ?_
    refine mv rfl ?_
    refine mv rfl ?_
    refine sc (sgT rfl fun hG => sp_load ty25 (od rfl)) ?_
    refine sc (sgT rfl fun hG => sp_move (od rfl)) ?_
    refine sc (sgT rfl fun hG => sp_move (od rfl)) ?_
    refine sc (sgT rfl fun hG => sp_sliceFrom sl26 (odw rfl hG) (odi) (guard_some e_9 hG)) ?_
    refine sc (sgT rfl fun hG => sp_call en109 (ih (guard_some e_11 hG)) ⟨odw rfl hG, odw rfl hG, odw rfl hG, trivial⟩) ?_
    refine cg (sp_pickAnd (od rfl) fun hg => odw rfl hg) ?_
    refine sn fun a w hS => ?_
    refine et ?_
    refine st_cond hS rfl (fun hb => ?_) (fun hb => ?_)
    · have h := ite_t hb h
      refine ws ?_
      refine st_reg mixed (by kernel_rfl) hS ?_
      refine cg (sp_assign (odb)) ?_
      refine sn fun a w hS => ?_
      refine et ?_
      refine wp_ret ?_
      refine exit_thenR ?_
      cases h
      exact st_ret hS (run_results1 Tryz.results109 a w) (hS.get rfl)
    have h := ite_f hb h
    refine wp_skip ?_
    refine et ?_
    refine ws ?_
    obtain ⟨v_12, e_13, h⟩ := bind_some h
    refine st_reg mixed (by kernel_rfl) hS ?_
    refine mv rfl ?_
    refine mv rfl ?_
    refine cg (sp_fieldAddr fd45_3 (od rfl)) ?_
    refine cg (sp_load ty3 (od rfl)) ?_
    refine cg (sp_fieldAddr fd45_4 (od rfl)) ?_
    refine cg (sp_load ty3 (od rfl)) ?_
    refine cg (sp_neg (od rfl)) ?_
    refine cg (sp_call en108 (f108_ok e_13) ⟨od rfl, od rfl, od rfl, od rfl, trivial⟩) ?_
    refine mv rfl ?_
    refine cg (sp_extract (od rfl) rfl) ?_
    refine cg (sp_extract (od rfl) rfl) ?_
    refine cg (sp_assign (od rfl)) ?_
    refine cg (sp_assign (od rfl)) ?_
    refine sn fun a w hS => ?_
    refine et ?_
    refine ws ?_
    obtain ⟨z_14, e_15, h⟩ := bind_some h
    obtain ⟨v_16, e_17, h⟩ := bind_some h
    refine st_reg mixed (by kernel_rfl) hS ?_
    refine mv rfl ?_
    refine mv rfl ?_
    refine sc (sgT rfl fun hG => sp_load ty25 (od rfl)) ?_
    refine sc (sgT rfl fun hG => sp_move (od rfl)) ?_
    refine sc (sgT rfl fun hG => sp_move (od rfl)) ?_
    refine sc (sgT rfl fun hG => sp_sliceFrom sl26 (odw rfl hG) (odi) (guard_some e_15 hG)) ?_
    refine sc (sgT rfl fun hG => sp_call en109 (ih (guard_some e_17 hG)) ⟨odw rfl hG, odw rfl hG, odw rfl hG, trivial⟩) ?_
    refine cg (sp_pickAnd (od rfl) fun hg => odw rfl hg) ?_
    refine cg (sp_assign (od rfl)) ?_
    refine sn fun a w hS => ?_
    refine et ?_
    refine wp_ret ?_
    cases h
    exact st_ret hS (run_results1 Tryz.results109 a w) (hS.get rfl)

theorem f30_ok {fuel : Nat} {p0 : S_api_Roster} {p1 : Int} {p2 : List Int} {r : Bool × Int} (h : M.f30 fuel p0 p1 p2 = some r) : CallOK Tryz.prog 30 [isV p0, isV p1, isV p2] (isTup [isV r.1, isV r.2]) := by
  unfold M.f30 at h
  refine callS_of Tryz.func30 rfl Tryz.ntmps30 rfl fun F0 w0 a hS => ?_
  refine ws ?_
  refine st_reg mixed (by kernel_rfl) hS ?_
  refine cg (sp_box (od rfl)) ?_
  refine cg (sp_assign (odb)) ?_
  refine cg (sp_assign (odi)) ?_
  refine sn fun a w hS => ?_
  refine et ?_
  refine ws ?_
  obtain ⟨v_1, e_2, h⟩ := bind_some h
  refine st_reg mixed (by kernel_rfl) hS ?_
  refine cg (sp_load ty25 (od rfl)) ?_
  refine mv rfl ?_
  refine mv rfl ?_
  refine cg (sp_call en107 (f107_ok e_2) ⟨od rfl, od rfl, od rfl, trivial⟩) ?_
  refine cg (sp_assign (od rfl)) ?_
  refine sn fun a w hS => ?_
  refine et ?_
  refine ws ?_
  refine ws ?_
  refine st_reg mixed (by kernel_rfl) hS ?_
  refine mv rfl ?_
  refine cg (sp_neq (od rfl) (odi)) ?_
  refine sn fun a w hS => ?_
  refine et ?_
  refine st_cond hS rfl (fun hb => ?_) (fun hb => ?_)
  · have h := ite_t hb h
    refine ws ?_
    refine st_reg mixed (by kernel_rfl) hS ?_
    refine mv rfl ?_
    refine cg (sp_assign (odb)) ?_
    refine cg (sp_assign (od rfl)) ?_
    refine sn fun a w hS => ?_
    refine et ?_
    refine wp_ret ?_
    refine exit_thenR ?_
    cases h
    exact st_ret hS (run_results2 Tryz.results30 a w) (⟨_, rfl, hS.get rfl, hS.get rfl, trivial⟩)
  have h := ite_f hb h
  refine wp_skip ?_
  refine et ?_
  refine ws ?_
  refine st_reg mixed (by kernel_rfl) hS ?_
  refine cg (sp_fieldAddr fd25_3 (od rfl)) ?_
  refine cg (sp_load ty22 (od rfl)) ?_
  refine cg (sp_len Tryz.underlying22 (od rfl)) ?_
  refine cg (sp_assign (od rfl)) ?_
  refine sn fun a w hS => ?_
  refine et ?_
  refine ws ?_
  refine st_reg mixed (by kernel_rfl) hS ?_
  refine cg (sp_assign (φ := Pr.is (.slice none 0 0)) (odc fun _ => rfl)) ?_
  refine sn fun a w hS => ?_
  have hS := st_nil (α := List Int) 26 hS
  have hS : St _ F0 [Item.sl (α := List Int) 26 (.slice none 0 0) ([] : List (List Int))] _ w0 _ _ := hS
  refine et ?_
  refine ws ?_
  refine ws ?_
  refine st_reg mixed (by kernel_rfl) hS ?_
  refine cg (sp_assign (odi)) ?_
  refine sn fun a w hS => ?_
  refine et ?_
  refine wp_block ?_
  obtain ⟨o_4, e_5, hr_6⟩ := bind_some h
  refine c_loop (fun K a w => ∃ s_3 : Int × (List (List Int)), ∃ u_7 : Value, loopM _ K s_3 = some o_4 ∧ St 84 F0 [Item.sl (α := List Int) 26 u_7 s_3.2] [(2, isV (α := List Int) p2), (3, isA (α := S_api_Roster) p0), (9, isV (α := Int) (p0.2.2.2.1.length : Int)), (10, Pr.is u_7), (11, isV (α := Int) s_3.1)] w0 a w) ?_ ?_ ⟨_, (.slice none 0 0), e_5, hS.weak ⟨od rfl, od rfl, od rfl, od rfl, od rfl, trivial⟩⟩
  · rintro a w ⟨_, _, hk, _⟩; cases hk
  rintro K a w ⟨s_3, u_7, hF_4, hS⟩
  obtain ⟨o, h, hN_4, hL_4⟩ := loop_more hF_4
  refine ws ?_
  refine ws ?_
  refine st_reg mixed (by kernel_rfl) hS ?_
  refine mv rfl ?_
  refine mv rfl ?_
  refine cg (sp_leq (od rfl) (od rfl)) ?_
  refine sn fun a w hS => ?_
  refine et ?_
  refine st_cond hS rfl (fun hb => ?_) (fun hb => ?_)
  · have h := ite_t hb h
    refine wp_skip ?_
    refine et ?_
    refine ws ?_
    refine wp_block ?_
    refine ws ?_
    refine st_reg mixed (by kernel_rfl) hS ?_
    refine cg (sp_assign (φ := Pr.is (.slice none 0 0)) (odc fun _ => rfl)) ?_
    refine sn fun a w hS => ?_
    have hS := st_nil (α := Int) 3 hS
    have hS : St _ F0 [Item.sl (α := List Int) 26 u_7 s_3.2, Item.sl (α := Int) 3 (.slice none 0 0) ([] : List Int)] _ w0 _ _ := hS
    refine et ?_
    refine ws ?_
    refine ws ?_
    refine st_reg mixed (by kernel_rfl) hS ?_
    refine cg (sp_assign (odi)) ?_
    refine sn fun a w hS => ?_
    refine et ?_
    refine wp_block ?_
    obtain ⟨o_9, e_10, hr_11⟩ := bind_some h
    refine c_loop (fun K a w => ∃ s_8 : Int × (List Int), ∃ u_12 : Value, loopM _ K s_8 = some o_9 ∧ St 84 F0 [Item.sl (α := List Int) 26 u_7 s_3.2, Item.sl (α := Int) 3 u_12 s_8.2] [(2, isV (α := List Int) p2), (3, isA (α := S_api_Roster) p0), (9, isV (α := Int) (p0.2.2.2.1.length : Int)), (10, Pr.is u_7), (11, isV (α := Int) s_3.1), (12, Pr.is u_12), (13, isV (α := Int) s_8.1)] w0 a w) ?_ ?_ ⟨_, (.slice none 0 0), e_10, hS.weak ⟨od rfl, od rfl, od rfl, od rfl, od rfl, od rfl, od rfl, trivial⟩⟩
    · rintro a w ⟨_, _, hk, _⟩; cases hk
    rintro K a w ⟨s_8, u_12, hF_9, hS⟩
    obtain ⟨o, h, hN_9, hL_9⟩ := loop_more hF_9
    refine ws ?_
    refine ws ?_
    refine st_reg mixed (by kernel_rfl) hS ?_
    refine mv rfl ?_
    refine mv rfl ?_
    refine cg (sp_leq (od rfl) (od rfl)) ?_
    refine sn fun a w hS => ?_
    refine et ?_
    refine st_cond hS rfl (fun hb => ?_) (fun hb => ?_)
    · have h := ite_t hb h
      refine wp_skip ?_
      refine et ?_
      refine ws ?_
      refine wp_block ?_
      refine ws ?_
      refine st_reg mixed (by kernel_rfl) hS ?_
      refine cg (sp_assign (odi)) ?_
      refine sn fun a w hS => ?_
      refine et ?_
      refine ws ?_
      refine ws ?_
      refine st_reg mixed (by kernel_rfl) hS ?_
      refine mv rfl ?_
      refine mv rfl ?_
      refine cg (sp_lss (od rfl) (od rfl)) ?_
      refine mv rfl ?_
      refine sc (sgT rfl fun hG => sp_move (od rfl)) ?_
      refine sc (sgT rfl fun hG => sp_move (od rfl)) ?_
      refine sc (sgT rfl fun hG => sp_lss (odw rfl hG) (odw rfl hG)) ?_
      refine cg (sp_pickAnd (od rfl) fun hg => odw rfl hg) ?_
      refine sn fun a w hS => ?_
      refine et ?_
      obtain ⟨y_14, hj_13, h⟩ := bind_some h
      refine wp_mono (Q := fun e a w => e = Exit.normal ∧ St 84 F0 [Item.sl (α := List Int) 26 u_7 s_3.2, Item.sl (α := Int) 3 u_12 s_8.2] [(2, isV (α := List Int) p2), (3, isA (α := S_api_Roster) p0), (9, isV (α := Int) (p0.2.2.2.1.length : Int)), (10, Pr.is u_7), (11, isV (α := Int) s_3.1), (12, Pr.is u_12), (13, isV (α := Int) s_8.1), (14, isV (α := Int) y_14)] w0 a w) ?_ ?_
      · refine st_cond hS rfl (fun hb => ?_) (fun hb => ?_)
        · have h := ite_t hb hj_13
          obtain ⟨v_15, e_16, h⟩ := bind_some h
          obtain ⟨v_17, e_18, h⟩ := bind_some h
          refine st_reg mixed (by kernel_rfl) hS ?_
          refine cg (sp_fieldAddr fd25_3 (od rfl)) ?_
          refine cg (sp_load ty22 (od rfl)) ?_
          refine mv rfl ?_
          refine cg (sp_indexAddr sl22 (od rfl) (od rfl) e_16) ?_
          refine cg (sp_load ty26 (od rfl)) ?_
          refine mv rfl ?_
          refine cg (sp_indexAddr sl26 (od rfl) (od rfl) e_18) ?_
          refine cg (sp_load ty3 (od rfl)) ?_
          refine cg (sp_assign (od rfl)) ?_
          refine sn fun a w hS => ?_
          cases h
          exact ⟨rfl, hS.weak ⟨od rfl, od rfl, od rfl, od rfl, od rfl, od rfl, od rfl, od rfl, trivial⟩⟩
        have h := ite_f hb hj_13
        refine wp_skip ?_
        cases h
        exact ⟨rfl, hS.weak ⟨od rfl, od rfl, od rfl, od rfl, od rfl, od rfl, od rfl, od rfl, trivial⟩⟩
      rintro e a w ⟨rfl, hS⟩
      refine et ?_
      refine ws ?_
      refine ws ?_
      refine st_reg mixed (by kernel_rfl) hS ?_
      refine mv rfl ?_
      refine mv rfl ?_
      refine cg (sp_eql (od rfl) (od rfl)) ?_
      refine sn fun a w hS => ?_
      refine et ?_
      obtain ⟨y_20, hj_19, h⟩ := bind_some h
      refine wp_mono (Q := fun e a w => e = Exit.normal ∧ St 84 F0 [Item.sl (α := List Int) 26 u_7 s_3.2, Item.sl (α := Int) 3 u_12 s_8.2] [(2, isV (α := List Int) p2), (3, isA (α := S_api_Roster) p0), (9, isV (α := Int) (p0.2.2.2.1.length : Int)), (10, Pr.is u_7), (11, isV (α := Int) s_3.1), (12, Pr.is u_12), (13, isV (α := Int) s_8.1), (14, isV (α := Int) y_20)] w0 a w) ?_ ?_
      · refine st_cond hS rfl (fun hb => ?_) (fun hb => ?_)
        · have h := ite_t hb hj_19
          refine st_reg mixed (by kernel_rfl) hS ?_
          refine cg (sp_assign (odi)) ?_
          refine sn fun a w hS => ?_
          cases h
          exact ⟨rfl, hS.weak ⟨od rfl, od rfl, od rfl, od rfl, od rfl, od rfl, od rfl, od rfl, trivial⟩⟩
        have h := ite_f hb hj_19
        refine wp_skip ?_
        cases h
        exact ⟨rfl, hS.weak ⟨od rfl, od rfl, od rfl, od rfl, od rfl, od rfl, od rfl, od rfl, trivial⟩⟩
      rintro e a w ⟨rfl, hS⟩
      refine et ?_
      obtain ⟨z_21, e_22, h⟩ := bind_some h
      refine l_start ?_
      refine s_c hS (sg (sp_move (od rfl))) rfl fun a w hS hM => ?_
      refine s_c hS (sg (sp_move (od rfl))) rfl fun a w hS hM => ?_
      refine s_c hS (sg (sp_buildSlice [.tmp 55] ([y_20] : List Int) sl26 ze3 rfl rfl rfl rfl ⟨od rfl, trivial⟩)) rfl fun a w hS hM => ?_
      refine s_append (k := 1) (Δ := [(2, isV (α := List Int) p2), (3, isA (α := S_api_Roster) p0), (9, isV (α := Int) (p0.2.2.2.1.length : Int)), (10, Pr.is u_7), (11, isV (α := Int) s_3.1), (13, isV (α := Int) s_8.1), (54, Pr.is u_12), (56, isV (α := List Int) ([y_20] : List Int))]) sl26 ze3 hS rfl ⟨od rfl, od rfl, od rfl, od rfl, od rfl, od rfl, od rfl, od rfl, trivial⟩ ⟨fun _ _ _ _ h => h, fun _ _ _ _ h => h, fun _ _ _ _ h => h, fun _ _ _ _ h => h, fun _ _ _ _ h => h, fun _ _ _ _ h => h, fun _ _ _ _ h => h, fun _ _ _ _ h => h, trivial⟩ (od rfl) (od rfl) e_22 rfl fun a w u_23 hS hM => ?_
      have hS : St _ F0 [Item.sl (α := List Int) 26 u_7 s_3.2, Item.sl (α := Int) 3 u_23 z_21] _ w0 _ _ := hS
      refine s_c hS (sg (sp_assign (od rfl))) rfl fun a w hS hM => ?_
      refine l_end ?_
      refine exit_block ?_
      refine et ?_
      refine st_reg mixed (by kernel_rfl) hS ?_
      refine mv rfl ?_
      refine cg (sp_add (od rfl) (odi)) ?_
      refine cg (sp_assign (od rfl)) ?_
      refine sn fun a w hS => ?_
      cases h
      exact ⟨_, u_23, hN_9 _ rfl, hS.weak ⟨od rfl, od rfl, od rfl, od rfl, od rfl, od rfl, od rfl, trivial⟩⟩
    have h := ite_f hb h
    refine wp_exit ?_
    refine exit_thenE ?_
    cases h
    obtain rfl := hL_9 _ rfl
    have h := hr_11
    refine exit_thenE ?_
    refine exit_here ?_
    refine et ?_
    have hS := st_freeze 1 12 hS rfl rfl
    obtain ⟨z_24, e_25, h⟩ := bind_some h
    refine l_start ?_
    refine s_c hS (sg (sp_move (od rfl))) rfl fun a w hS hM => ?_
    refine s_c hS (sg (sp_move (od rfl))) rfl fun a w hS hM => ?_
    refine s_c hS (sg (sp_buildSlice [.tmp 59] ([s_8.2] : List (List Int)) sl22 ze26 rfl rfl rfl rfl ⟨od rfl, trivial⟩)) rfl fun a w hS hM => ?_
    refine s_append (k := 0) (Δ := [(2, isV (α := List Int) p2), (3, isA (α := S_api_Roster) p0), (9, isV (α := Int) (p0.2.2.2.1.length : Int)), (11, isV (α := Int) s_3.1), (58, Pr.is u_7), (60, isV (α := List (List Int)) ([s_8.2] : List (List Int)))]) sl22 ze26 hS rfl ⟨od rfl, od rfl, od rfl, od rfl, od rfl, od rfl, trivial⟩ ⟨fun _ _ _ _ h => h, fun _ _ _ _ h => h, fun _ _ _ _ h => h, fun _ _ _ _ h => h, fun _ _ _ _ h => h, fun _ _ _ _ h => h, trivial⟩ (od rfl) (od rfl) e_25 rfl fun a w u_26 hS hM => ?_
    have hS : St _ F0 [Item.sl (α := List Int) 26 u_26 z_24] _ w0 _ _ := hS
    refine s_c hS (sg (sp_assign (od rfl))) rfl fun a w hS hM => ?_
    refine l_end ?_
    refine exit_block ?_
    refine et ?_
    refine st_reg mixed (by kernel_rfl) hS ?_
    refine mv rfl ?_
    refine cg (sp_add (od rfl) (odi)) ?_
    refine cg (sp_assign (od rfl)) ?_
    refine sn fun a w hS => ?_
    cases h
    exact ⟨_, u_26, hN_4 _ rfl, hS.weak ⟨od rfl, od rfl, od rfl, od rfl, od rfl, trivial⟩⟩
  have h := ite_f hb h
  refine wp_exit ?_
  refine exit_thenE ?_
  cases h
  obtain rfl := hL_4 _ rfl
  have h := hr_6
  refine exit_thenE ?_
  refine exit_here ?_
  refine et ?_
  refine ws ?_
  have hS := st_freeze 0 10 hS rfl rfl
  obtain ⟨v_31, e_32, h⟩ := bind_some h
  refine st_reg mixed (by kernel_rfl) hS ?_
  refine mv rfl ?_
  refine mv rfl ?_
  refine cg (sp_fieldAddr fd25_2 (od rfl)) ?_
  refine cg (sp_load ty3 (od rfl)) ?_
  refine cg (sp_sub (od rfl) (odi)) ?_
  refine cg (sp_call en108 (f108_ok e_32) ⟨od rfl, odi, od rfl, od rfl, trivial⟩) ?_
  refine mv rfl ?_
  refine cg (sp_extract (od rfl) rfl) ?_
  refine cg (sp_extract (od rfl) rfl) ?_
  refine cg (sp_assign (od rfl)) ?_
  refine sn fun a w hS => ?_
  refine et ?_
  refine ws ?_
  obtain ⟨v_33, e_34, h⟩ := bind_some h
  refine st_reg mixed (by kernel_rfl) hS ?_
  refine mv rfl ?_
  refine mv rfl ?_
  refine cg (sp_fieldAddr fd25_1 (od rfl)) ?_
  refine cg (sp_load ty3 (od rfl)) ?_
  refine cg (sp_neg (od rfl)) ?_
  refine cg (sp_call en108 (f108_ok e_34) ⟨od rfl, od rfl, odi, od rfl, trivial⟩) ?_
  refine mv rfl ?_
  refine cg (sp_extract (od rfl) rfl) ?_
  refine cg (sp_extract (od rfl) rfl) ?_
  refine cg (sp_assign (od rfl)) ?_
  refine sn fun a w hS => ?_
  refine et ?_
  refine ws ?_
  obtain ⟨v_35, e_36, h⟩ := bind_some h
  refine st_reg mixed (by kernel_rfl) hS ?_
  refine cg (sp_load ty25 (od rfl)) ?_
  refine mv rfl ?_
  refine mv rfl ?_
  refine cg (sp_call en109 (f109_ok e_36) ⟨od rfl, od rfl, od rfl, trivial⟩) ?_
  refine cg (sp_assign (od rfl)) ?_
  refine cg (sp_assign (odi)) ?_
  refine sn fun a w hS => ?_
  refine et ?_
  refine wp_ret ?_
  cases h
  exact st_ret hS (run_results2 Tryz.results30 a w) (⟨_, rfl, hS.get rfl, hS.get rfl, trivial⟩)

theorem f31_ok {fuel : Nat} {p0 : S_api_Roster} {p1 : Int} {p2 : List Int} {p3 : List Int} {r : Int} (h : M.f31 fuel p0 p1 p2 p3 = some r) : CallOK Tryz.prog 31 [isV p0, isV p1, isV p2, isV p3] (isV r) := by
  unfold M.f31 at h
  refine callS_of Tryz.func31 rfl Tryz.ntmps31 rfl fun F0 w0 a hS => ?_
  refine ws ?_
  refine st_reg mixed (by kernel_rfl) hS ?_
  refine cg (sp_box (od rfl)) ?_
  refine cg (sp_assign (odi)) ?_
  refine sn fun a w hS => ?_
  refine et ?_
  refine ws ?_
  obtain ⟨v_1, e_2, h⟩ := bind_some h
  refine st_reg mixed (by kernel_rfl) hS ?_
  refine cg (sp_load ty25 (od rfl)) ?_
  refine mv rfl ?_
  refine mv rfl ?_
  refine cg (sp_call en107 (f107_ok e_2) ⟨od rfl, od rfl, od rfl, trivial⟩) ?_
  refine cg (sp_assign (od rfl)) ?_
  refine sn fun a w hS => ?_
  refine et ?_
  refine ws ?_
  refine ws ?_
  refine st_reg mixed (by kernel_rfl) hS ?_
  refine mv rfl ?_
  refine cg (sp_neq (od rfl) (odi)) ?_
  refine sn fun a w hS => ?_
  refine et ?_
  refine st_cond hS rfl (fun hb => ?_) (fun hb => ?_)
  · have h := ite_t hb h
    refine ws ?_
    refine st_reg mixed (by kernel_rfl) hS ?_
    refine mv rfl ?_
    refine cg (sp_assign (od rfl)) ?_
    refine sn fun a w hS => ?_
    refine et ?_
    refine wp_ret ?_
    refine exit_thenR ?_
    cases h
    exact st_ret hS (run_results1 Tryz.results31 a w) (hS.get rfl)
  have h := ite_f hb h
  refine wp_skip ?_
  refine et ?_
  refine ws ?_
  obtain ⟨v_3, e_4, h⟩ := bind_some h
  refine st_reg mixed (by kernel_rfl) hS ?_
  refine cg (sp_load ty25 (od rfl)) ?_
  refine mv rfl ?_
  refine cg (sp_call en110 (f110_ok e_4) ⟨od rfl, od rfl, trivial⟩) ?_
  refine cg (sp_assign (od rfl)) ?_
  refine sn fun a w hS => ?_
  refine et ?_
  refine ws ?_
  refine ws ?_
  refine st_reg mixed (by kernel_rfl) hS ?_
  refine mv rfl ?_
  refine cg (sp_neq (od rfl) (odi)) ?_
  refine sn fun a w hS => ?_
  refine et ?_
  refine st_cond hS rfl (fun hb => ?_) (fun hb => ?_)
  · have h := ite_t hb h
    refine ws ?_
    refine st_reg mixed (by kernel_rfl) hS ?_
    refine mv rfl ?_
    refine cg (sp_assign (od rfl)) ?_
    refine sn fun a w hS => ?_
    refine et ?_
    refine wp_ret ?_
    refine exit_thenR ?_
    cases h
    exact st_ret hS (run_results1 Tryz.results31 a w) (hS.get rfl)
  have h := ite_f hb h
  refine wp_skip ?_
  refine et ?_
  refine ws ?_
  refine ws ?_
  obtain ⟨v_5, e_6, h⟩ := bind_some h
  obtain ⟨v_7, e_8, h⟩ := bind_some h
  refine st_reg mixed (by kernel_rfl) hS ?_
  refine mv rfl ?_
  refine cg (sp_indexAddr sl26 (od rfl) (odi) e_6) ?_
  refine cg (sp_load ty3 (od rfl)) ?_
  refine cg (sp_fieldAddr fd25_1 (od rfl)) ?_
  refine cg (sp_load ty3 (od rfl)) ?_
  refine cg (sp_lss (od rfl) (od rfl)) ?_
  refine mv rfl ?_
  refine sc (sgF rfl fun hG => sp_move (od rfl)) ?_
  refine sc (sgF rfl fun hG => sp_indexAddr sl26 (odw rfl hG) (odi) (guard_some e_8 hG)) ?_
  refine sc (sgF rfl fun hG => sp_load ty3 (odw rfl hG)) ?_
  refine sc (sgF rfl fun hG => sp_fieldAddr fd25_2 (od rfl)) ?_
  refine sc (sgF rfl fun hG => sp_load ty3 (odw rfl hG)) ?_
  refine sc (sgF rfl fun hG => sp_geq (odw rfl hG) (odw rfl hG)) ?_
  refine cg (sp_pickOr (od rfl) fun hg => odw rfl (not_t hg)) ?_
  refine sn fun a w hS => ?_
  refine et ?_
  refine st_cond hS rfl (fun hb => ?_) (fun hb => ?_)
  · have h := ite_t hb h
    refine ws ?_
    refine st_reg mixed (by kernel_rfl) hS ?_
    refine cg (sp_assign (odi)) ?_
    refine sn fun a w hS => ?_
    refine et ?_
    refine wp_ret ?_
    refine exit_thenR ?_
    cases h
    exact st_ret hS (run_results1 Tryz.results31 a w) (hS.get rfl)
  have h := ite_f hb h
  refine wp_skip ?_
  refine et ?_
  refine ws ?_
  refine ws ?_
  refine st_reg mixed (by kernel_rfl) hS ?_
  refine cg (sp_assign (odi)) ?_
  refine sn fun a w hS => ?_
  refine et ?_
  refine wp_block ?_
  obtain ⟨o_10, e_11, hr_12⟩ := bind_some h
  refine c_loop (fun K a w => ∃ s_9 : Int, loopM _ K s_9 = some o_10 ∧ St 54 F0 [] [(2, isV (α := List Int) p2), (3, isV (α := List Int) p3), (4, isA (α := S_api_Roster) p0), (10, isV (α := Int) s_9)] w0 a w) ?_ ?_ ⟨_, e_11, hS.weak ⟨od rfl, od rfl, od rfl, od rfl, trivial⟩⟩
  · rintro a w ⟨_, hk, _⟩; cases hk
  rintro K a w ⟨s_9, hF_10, hS⟩
  obtain ⟨o, h, hN_10, hL_10⟩ := loop_more hF_10
  refine ws ?_
  refine ws ?_
  refine st_reg mixed (by kernel_rfl) hS ?_
  refine mv rfl ?_
  refine mv rfl ?_
  refine cg (sp_len Tryz.underlying26 (od rfl)) ?_
  refine cg (sp_lss (od rfl) (od rfl)) ?_
  refine sn fun a w hS => ?_
  refine et ?_
  refine st_cond hS rfl (fun hb => ?_) (fun hb => ?_)
  · have h := ite_t hb h
    refine wp_skip ?_
    refine et ?_
    refine ws ?_
    refine wp_block ?_
    refine ws ?_
    obtain ⟨v_13, e_14, h⟩ := bind_some h
    obtain ⟨v_15, e_16, h⟩ := bind_some h
    obtain ⟨v_17, e_18, h⟩ := bind_some h
    refine st_reg mixed (by kernel_rfl) hS ?_
    refine cg (sp_fieldAddr fd25_4 (od rfl)) ?_
    refine cg (sp_load ty23 (od rfl)) ?_
    refine mv rfl ?_
    refine mv rfl ?_
    refine cg (sp_indexAddr sl26 (od rfl) (od rfl) e_14) ?_
    refine cg (sp_load ty3 (od rfl)) ?_
    refine cg (sp_indexAddr sl23 (od rfl) (od rfl) e_16) ?_
    refine cg (sp_load ty45 (od rfl)) ?_
    refine mv rfl ?_
    refine cg (sp_call en111 (f111_ok e_18) ⟨od rfl, od rfl, trivial⟩) ?_
    refine sn fun a w hS => ?_
    refine et ?_
    refine st_cond hS rfl (fun hb => ?_) (fun hb => ?_)
    · have h := ite_t hb h
      refine ws ?_
      refine st_reg mixed (by kernel_rfl) hS ?_
      refine cg (sp_assign (odi)) ?_
      refine sn fun a w hS => ?_
      refine et ?_
      refine wp_ret ?_
      refine exit_blockR ?_
      refine exit_thenR ?_
      cases h
      obtain rfl := hL_10 _ rfl
      have h := (sum_inr hr_12)
      refine exit_thenR ?_
      refine exit_blockR ?_
      refine exit_thenR ?_
      cases h
      exact st_ret hS (run_results1 Tryz.results31 a w) (hS.get rfl)
    have h := ite_f hb h
    refine wp_skip ?_
    refine exit_block ?_
    refine et ?_
    refine st_reg mixed (by kernel_rfl) hS ?_
    refine mv rfl ?_
    refine cg (sp_add (od rfl) (odi)) ?_
    refine cg (sp_assign (od rfl)) ?_
    refine sn fun a w hS => ?_
    cases h
    exact ⟨_, hN_10 _ rfl, hS.weak ⟨od rfl, od rfl, od rfl, od rfl, trivial⟩⟩
  have h := ite_f hb h
  refine wp_exit ?_
  refine exit_thenE ?_
  cases h
  obtain rfl := hL_10 _ rfl
  have h := (sum_inl hr_12)
  refine exit_thenE ?_
  refine exit_here ?_
  refine et ?_
  refine ws ?_
  refine st_reg mixed (by kernel_rfl) hS ?_
  refine cg (sp_assign (odi)) ?_
  refine sn fun a w hS => ?_
  refine et ?_
  refine wp_ret ?_
  cases h
  exact st_ret hS (run_results1 Tryz.results31 a w) (hS.get rfl)

theorem f4_ok {fuel : Nat} {p0 : S_api_Roster} {p1 : Int} {p2 : List Int} {p3 : List Int} {r : Bool} (h : M.f4 fuel p0 p1 p2 p3 = some r) : CallT Tryz.prog 4 [isV p0, isV p1, isV p2, isV p3] (isV r) := by
  unfold M.f4 at h
  refine callT_of Tryz.func4 rfl Tryz.ntmps4 rfl fun F0 w0 a hT hS => ?_
  refine ws ?_
  refine st_reg mixed (by kernel_rfl) hS ?_
  refine cg (sp_box (od rfl)) ?_
  refine cg (sp_assign (odb)) ?_
  refine sn fun a w hS => ?_
  refine et ?_
  refine ws ?_
  refine ws ?_
  obtain ⟨v_1, e_2, h⟩ := bind_some h
  refine l_start ?_
  refine s_callT en16 (f16_ok e_2) hT hS trivial rfl fun a w hS hM => ?_
  refine s_c hS (sg (sp_not (od rfl))) rfl fun a w hS hM => ?_
  refine l_end ?_
  refine et ?_
  refine st_cond hS rfl (fun hb => ?_) (fun hb => ?_)
  · have h := ite_t hb h
    refine ws ?_
    refine st_reg mixed (by kernel_rfl) hS ?_
    refine cg (sp_assign (odb)) ?_
    refine sn fun a w hS => ?_
    refine et ?_
    refine wp_ret ?_
    refine exit_thenR ?_
    cases h
    exact st_ret hS (run_results1 Tryz.results4 a w) (hS.get rfl)
  have h := ite_f hb h
  refine wp_skip ?_
  refine et ?_
  refine ws ?_
  refine ws ?_
  obtain ⟨v_3, e_4, h⟩ := bind_some h
  refine st_reg mixed (by kernel_rfl) hS ?_
  refine cg (sp_load ty25 (od rfl)) ?_
  refine mv rfl ?_
  refine mv rfl ?_
  refine cg (sp_buildSlice [.tmp 17, .tmp 18] ([p2, p3] : List (List Int)) sl22 ze26 rfl rfl rfl rfl ⟨od rfl, od rfl, trivial⟩) ?_
  refine cg (sp_call en17 (f17_ok e_4) ⟨od rfl, od rfl, trivial⟩) ?_
  refine cg (sp_not (od rfl)) ?_
  refine sn fun a w hS => ?_
  refine et ?_
  refine st_cond hS rfl (fun hb => ?_) (fun hb => ?_)
  · have h := ite_t hb h
    refine ws ?_
    refine st_reg mixed (by kernel_rfl) hS ?_
    refine cg (sp_assign (odb)) ?_
    refine sn fun a w hS => ?_
    refine et ?_
    refine wp_ret ?_
    refine exit_thenR ?_
    cases h
    exact st_ret hS (run_results1 Tryz.results4 a w) (hS.get rfl)
  have h := ite_f hb h
  refine wp_skip ?_
  refine et ?_
  refine ws ?_
  obtain ⟨v_5, e_6, h⟩ := bind_some h
  refine st_reg mixed (by kernel_rfl) hS ?_
  refine cg (sp_load ty25 (od rfl)) ?_
  refine mv rfl ?_
  refine mv rfl ?_
  refine cg (sp_call en29 (f29_ok e_6) ⟨od rfl, od rfl, od rfl, trivial⟩) ?_
  refine mv rfl ?_
  refine cg (sp_extract (od rfl) rfl) ?_
  refine cg (sp_extract (od rfl) rfl) ?_
  refine cg (sp_extract (od rfl) rfl) ?_
  refine cg (sp_assign (od rfl)) ?_
  refine cg (sp_assign (od rfl)) ?_
  refine cg (sp_assign (od rfl)) ?_
  refine sn fun a w hS => ?_
  refine et ?_
  refine ws ?_
  obtain ⟨v_7, e_8, h⟩ := bind_some h
  refine st_reg mixed (by kernel_rfl) hS ?_
  refine cg (sp_load ty25 (od rfl)) ?_
  refine mv rfl ?_
  refine mv rfl ?_
  refine cg (sp_call en30 (f30_ok e_8) ⟨od rfl, od rfl, od rfl, trivial⟩) ?_
  refine mv rfl ?_
  refine cg (sp_extract (od rfl) rfl) ?_
  refine cg (sp_extract (od rfl) rfl) ?_
  refine cg (sp_assign (od rfl)) ?_
  refine cg (sp_assign (od rfl)) ?_
  refine sn fun a w hS => ?_
  refine et ?_
  refine ws ?_
  refine ws ?_
  obtain ⟨v_9, e_10, h⟩ := bind_some h
  refine st_reg mixed (by kernel_rfl) hS ?_
  refine mv rfl ?_
  refine mv rfl ?_
  refine cg (sp_neqB Tryz.underlying4 (od rfl) (od rfl)) ?_
  refine mv rfl ?_
  refine sc (sgF rfl fun hG => sp_move (od rfl)) ?_
  refine sc (sgF rfl fun hG => sp_move (od rfl)) ?_
  refine sc (sgF rfl fun hG => sp_neq (odw rfl hG) (odw rfl hG)) ?_
  refine cg (sp_pickOr (od rfl) fun hg => odw rfl (not_t hg)) ?_
  refine mv rfl ?_
  refine sc (sgF rfl fun hG => sp_move (od rfl)) ?_
  refine sc (sgF rfl fun hG => sp_move (odw rfl hG)) ?_
  refine sc (sgwT rfl fun hG => sp_load ty25 (od rfl)) ?_
  refine sc (sgwT rfl fun hG => sp_move (od rfl)) ?_
  refine sc (sgwT rfl fun hG => sp_move (od rfl)) ?_
  refine sc (sgwT rfl fun hG => sp_move (od rfl)) ?_
  refine sc (sgwT rfl fun hG => sp_call en31 (f31_ok (guard_some e_10 hG)) ⟨odw rfl hG, odw rfl hG, odw rfl hG, odw rfl hG, trivial⟩) ?_
  refine sc (sgwT rfl fun hG => sp_neq (odw rfl hG) (odi)) ?_
  refine sc (sgF rfl fun hG => sp_pickAnd (odw rfl hG) fun hg => odw rfl (and_mk hG hg)) ?_
  refine cg (sp_pickOr (od rfl) fun hg => odw rfl (not_t hg)) ?_
  refine mv rfl ?_
  refine sc (sgF rfl fun hG => sp_move (od rfl)) ?_
  refine sc (sgF rfl fun hG => sp_not (odw rfl hG)) ?_
  refine sc (sgF rfl fun hG => sp_move (odw rfl hG)) ?_
  refine sc (sgwT rfl fun hG => sp_move (od rfl)) ?_
  refine sc (sgwT rfl fun hG => sp_len Tryz.underlying26 (odw rfl hG)) ?_
  refine sc (sgwT rfl fun hG => sp_neq (odw rfl hG) (odi)) ?_
  refine sc (sgF rfl fun hG => sp_pickAnd (odw rfl hG) fun hg => odw rfl (and_mk hG hg)) ?_
  refine cg (sp_pickOr (od rfl) fun hg => odw rfl (not_t hg)) ?_
  refine sn fun a w hS => ?_
  refine et ?_
  refine st_cond hS rfl (fun hb => ?_) (fun hb => ?_)
  · have h := ite_t hb h
    refine ws ?_
    refine st_reg mixed (by kernel_rfl) hS ?_
    refine cg (sp_assign (odb)) ?_
    refine sn fun a w hS => ?_
    refine et ?_
    refine wp_ret ?_
    refine exit_thenR ?_
    cases h
    exact st_ret hS (run_results1 Tryz.results4 a w) (hS.get rfl)
  have h := ite_f hb h
  refine wp_skip ?_
  refine et ?_
  refine ws ?_
  obtain ⟨v_11, e_12, h⟩ := bind_some h
  obtain ⟨v_13, e_14, h⟩ := bind_some h
  refine st_reg mixed (by kernel_rfl) hS ?_
  refine cg (sp_load ty25 (od rfl)) ?_
  refine mv rfl ?_
  refine mv rfl ?_
  refine mv rfl ?_
  refine cg (sp_call en32 (f32_ok e_12) ⟨od rfl, od rfl, od rfl, od rfl, trivial⟩) ?_
  refine cg (sp_load ty25 (od rfl)) ?_
  refine mv rfl ?_
  refine mv rfl ?_
  refine mv rfl ?_
  refine cg (sp_call en31 (f31_ok e_14) ⟨od rfl, od rfl, od rfl, od rfl, trivial⟩) ?_
  refine cg (sp_eql (od rfl) (od rfl)) ?_
  refine cg (sp_assign (od rfl)) ?_
  refine sn fun a w hS => ?_
  refine et ?_
  refine wp_ret ?_
  cases h
  exact st_ret hS (run_results1 Tryz.results4 a w) (hS.get rfl)

end Go.Proofs.YthogdhepjcomjaaGreatDoor
