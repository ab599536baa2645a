/-
  What is proved: each Go function named here returns what its model tells, and changes nothing that was there; where the model tells something.
-/
import Derived.Test.YthogdhepjcomjaaGreatDoorWalkH
import Derived.Test.YthogdhepjcomjaaGreatDoorModelI
set_option linter.unusedVariables false
set_option maxRecDepth 100000
namespace Go.Proofs.YthogdhepjcomjaaGreatDoor
open Go Go.RowKit Go.Proofs.YthogdhepjcomjaaGreatDoor.Wh

theorem f76_ok {fuel : Nat} {p0 : S_api_Roster} {p1 : Int} {r : (List Int)} (h : M.f76 fuel p0 p1 = some r) : CallOK Tryz.prog 76 [isV p0, isV p1] (isV r) := by
  unfold M.f76 at h
  refine callS_of Tryz.func76 rfl Tryz.ntmps76 rfl fun F0 w0 a hS => ?_
  refine ws ?_
  refine st_reg mixed (by kernel_rfl) hS ?_
  refine cg (sp_box (od rfl)) ?_
  refine cg (sp_assign (odnil (α := Int))) ?_
  refine sn fun a w hS => ?_
  refine et ?_
  refine ws ?_
  obtain ⟨q_1, e_2, h⟩ := bind_some h
  refine l_start ?_
  refine s_c hS (sg (sp_fieldAddr fd25_4 (od rfl))) rfl fun a w hS hM => ?_
  refine s_c hS (sg (sp_load ty23 (od rfl))) rfl fun a w hS hM => ?_
  refine s_c hS (sg (sp_len Tryz.underlying23 (od rfl))) rfl fun a w hS hM => ?_
  refine s_make sl123 ze4 zi4 rfl hS (od rfl) e_2 rfl fun a w u_3 hS hM => ?_
  have hS : St _ F0 [Item.sl (α := Bool) 4 u_3 q_1] _ w0 _ _ := hS
  refine s_c hS (sg (sp_assign (od rfl))) rfl fun a w hS hM => ?_
  refine l_end ?_
  refine et ?_
  refine ws ?_
  refine ws ?_
  refine st_reg mixed (by kernel_rfl) hS ?_
  refine cg (sp_assign (odb)) ?_
  refine sn fun a w hS => ?_
  refine et ?_
  refine wp_block ?_
  obtain ⟨o_5, e_6, hr_7⟩ := bind_some h
  refine c_loop (fun K a w => ∃ s_4 : Bool × (List Bool), loopM _ K s_4 = some o_5 ∧ St 83 F0 [Item.sl (α := Bool) 4 u_3 s_4.2] [(1, isV (α := Int) p1), (2, isA (α := S_api_Roster) p0), (5, Pr.is u_3), (6, isV (α := Bool) s_4.1)] w0 a w) ?_ ?_ ⟨_, e_6, hS.weak ⟨od rfl, od rfl, od rfl, od rfl, trivial⟩⟩
  · rintro a w ⟨_, hk, _⟩; cases hk
  rintro K a w ⟨s_4, hF_5, hS⟩
  obtain ⟨o, h, hN_5, hL_5⟩ := loop_more hF_5
  refine ws ?_
  refine ws ?_
  refine st_reg mixed (by kernel_rfl) hS ?_
  refine mv rfl ?_
  refine sn fun a w hS => ?_
  refine et ?_
  refine st_cond hS rfl (fun hb => ?_) (fun hb => ?_)
  · have h := ite_t hb h
    refine wp_skip ?_
    refine et ?_
    refine wp_block ?_
    refine ws ?_
    refine st_reg mixed (by kernel_rfl) hS ?_
    refine cg (sp_assign (odb)) ?_
    refine sn fun a w hS => ?_
    refine et ?_
    refine ws ?_
    refine st_reg mixed (by kernel_rfl) hS ?_
    refine cg (sp_assign (odi)) ?_
    refine sn fun a w hS => ?_
    refine et ?_
    refine wp_block ?_
    obtain ⟨o_9, e_10, hr_11⟩ := bind_some h
    refine c_loop (fun K a w => ∃ s_8 : Bool × Int × (List Bool), loopM _ K s_8 = some o_9 ∧ St 83 F0 [Item.sl (α := Bool) 4 u_3 s_8.2.2] [(1, isV (α := Int) p1), (2, isA (α := S_api_Roster) p0), (5, Pr.is u_3), (6, isV (α := Bool) s_8.1), (7, isV (α := Int) s_8.2.1)] w0 a w) ?_ ?_ ⟨_, e_10, hS.weak ⟨od rfl, od rfl, od rfl, od rfl, od rfl, trivial⟩⟩
    · rintro a w ⟨_, hk, _⟩; cases hk
    rintro K a w ⟨s_8, hF_9, hS⟩
    obtain ⟨o, h, hN_9, hL_9⟩ := loop_more hF_9
    refine ws ?_
    refine ws ?_
    refine st_reg mixed (by kernel_rfl) hS ?_
    refine mv rfl ?_
    refine cg (sp_fieldAddr fd25_4 (od rfl)) ?_
    refine cg (sp_load ty23 (od rfl)) ?_
    refine cg (sp_len Tryz.underlying23 (od rfl)) ?_
    refine cg (sp_lss (od rfl) (od rfl)) ?_
    refine sn fun a w hS => ?_
    refine et ?_
    refine st_cond hS rfl (fun hb => ?_) (fun hb => ?_)
    · have h := ite_t hb h
      refine wp_skip ?_
      refine et ?_
      refine ws ?_
      refine wp_block ?_
      refine ws ?_
      obtain ⟨v_12, e_13, h⟩ := bind_some h
      refine st_reg mixed (by kernel_rfl) hS ?_
      refine cg (sp_load ty25 (od rfl)) ?_
      refine mv rfl ?_
      refine cg (sp_call en83 (f83_ok e_13) ⟨od rfl, od rfl, trivial⟩) ?_
      refine cg (sp_assign (od rfl)) ?_
      refine sn fun a w hS => ?_
      refine et ?_
      refine ws ?_
      refine ws ?_
      refine st_reg mixed (by kernel_rfl) hS ?_
      refine cg (sp_assign (odi)) ?_
      refine sn fun a w hS => ?_
      refine et ?_
      refine wp_block ?_
      obtain ⟨o_15, e_16, hr_17⟩ := bind_some h
      refine c_loop (fun K a w => ∃ s_14 : Bool × Int, loopM _ K s_14 = some o_15 ∧ St 83 F0 [Item.sl (α := Bool) 4 u_3 s_8.2.2] [(1, isV (α := Int) p1), (2, isA (α := S_api_Roster) p0), (5, Pr.is u_3), (6, isV (α := Bool) s_8.1), (7, isV (α := Int) s_8.2.1), (8, isV (α := Bool) s_14.1), (9, isV (α := Int) s_14.2)] w0 a w) ?_ ?_ ⟨_, e_16, hS.weak ⟨od rfl, od rfl, od rfl, od rfl, od rfl, od rfl, od rfl, trivial⟩⟩
      · rintro a w ⟨_, hk, _⟩; cases hk
      rintro K a w ⟨s_14, hF_15, hS⟩
      obtain ⟨o, h, hN_15, hL_15⟩ := loop_more hF_15
      refine ws ?_
      refine ws ?_
      refine st_reg mixed (by kernel_rfl) hS ?_
      refine mv rfl ?_
      refine cg (sp_fieldAddr fd25_4 (od rfl)) ?_
      refine cg (sp_load ty23 (od rfl)) ?_
      refine cg (sp_len Tryz.underlying23 (od rfl)) ?_
      refine cg (sp_lss (od rfl) (od rfl)) ?_
      refine sn fun a w hS => ?_
      refine et ?_
      refine st_cond hS rfl (fun hb => ?_) (fun hb => ?_)
      · have h := ite_t hb h
        refine wp_skip ?_
        refine et ?_
        refine ws ?_
        refine wp_block ?_
        have hS := st_os 0 5 hS rfl rfl
        obtain ⟨v_18, e_19, h⟩ := bind_some h
        obtain ⟨v_20, e_21, h⟩ := bind_some h
        refine st_reg mixed (by kernel_rfl) hS ?_
        refine mv rfl ?_
        refine mv rfl ?_
        refine sc (sgF rfl fun hG => sp_move (od rfl)) ?_
        refine sc (sgF rfl fun hG => sp_move (od rfl)) ?_
        refine sc (sgF rfl fun hG => sp_indexAddrOS sl123 (odw rfl hG) (odw rfl hG) (guard_some e_19 hG)) ?_
        refine sc (sgF rfl fun hG => sp_loadEA ty4 (odw rfl hG)) ?_
        refine sc (sgF rfl fun hG => sp_move (odw rfl hG)) ?_
        refine sc (sgwT rfl fun hG => sp_load ty25 (od rfl)) ?_
        refine sc (sgwT rfl fun hG => sp_move (od rfl)) ?_
        refine sc (sgwT rfl fun hG => sp_move (od rfl)) ?_
        refine sc (sgwT rfl fun hG => sp_call en84 (f84_ok (guard_some e_21 hG)) ⟨odw rfl hG, odw rfl hG, odw rfl hG, trivial⟩) ?_
        refine sc (sgF rfl fun hG => sp_pickAnd (odw rfl hG) fun hg => odw rfl (and_mk hG hg)) ?_
        refine cg (sp_pickOr (od rfl) fun hg => odw rfl (not_t hg)) ?_
        refine cg (sp_assign (od rfl)) ?_
        refine sn fun a w hS => ?_
        refine exit_block ?_
        refine et ?_
        refine st_reg mixed (by kernel_rfl) hS ?_
        refine mv rfl ?_
        refine cg (sp_add (od rfl) (odi)) ?_
        refine cg (sp_assign (od rfl)) ?_
        refine sn fun a w hS => ?_
        cases h
        exact ⟨_, hN_15 _ rfl, hS.weak ⟨od rfl, od rfl, odOS rfl, od rfl, od rfl, od rfl, od rfl, trivial⟩⟩
      have h := ite_f hb h
      refine wp_exit ?_
      refine exit_thenE ?_
      cases h
      obtain rfl := hL_15 _ rfl
      have h := hr_17
      refine exit_thenE ?_
      refine exit_here ?_
      refine et ?_
      refine ws ?_
      have hS := st_os 0 5 hS rfl rfl
      obtain ⟨v_22, e_23, h⟩ := bind_some h
      obtain ⟨v_24, e_25, h⟩ := bind_some h
      refine st_reg mixed (by kernel_rfl) hS ?_
      refine cg (sp_fieldAddr fd25_4 (od rfl)) ?_
      refine cg (sp_load ty23 (od rfl)) ?_
      refine mv rfl ?_
      refine cg (sp_indexAddr sl23 (od rfl) (od rfl) e_23) ?_
      refine cg (sp_fieldAddr fd45_0 (od rfl)) ?_
      refine cg (sp_load ty3 (od rfl)) ?_
      refine mv rfl ?_
      refine cg (sp_eql (od rfl) (od rfl)) ?_
      refine mv rfl ?_
      refine sc (sgT rfl fun hG => sp_move (od rfl)) ?_
      refine cg (sp_pickAnd (od rfl) fun hg => odw rfl hg) ?_
      refine mv rfl ?_
      refine sc (sgT rfl fun hG => sp_move (od rfl)) ?_
      refine sc (sgT rfl fun hG => sp_move (od rfl)) ?_
      refine sc (sgT rfl fun hG => sp_indexAddrOS sl123 (odw rfl hG) (odw rfl hG) (guard_some e_25 hG)) ?_
      refine sc (sgT rfl fun hG => sp_loadEA ty4 (odw rfl hG)) ?_
      refine sc (sgT rfl fun hG => sp_not (odw rfl hG)) ?_
      refine cg (sp_pickAnd (od rfl) fun hg => odw rfl hg) ?_
      refine sn fun a w hS => ?_
      refine et ?_
      obtain ⟨⟨y_27, y_28⟩, hj_26, h⟩ := bind_some h
      refine wp_mono (Q := fun e a w => e = Exit.normal ∧ St 83 F0 [Item.sl (α := Bool) 4 u_3 y_28] [(1, isV (α := Int) p1), (2, isA (α := S_api_Roster) p0), (5, Pr.is u_3), (6, isV (α := Bool) y_27), (7, isV (α := Int) s_8.2.1)] w0 a w) ?_ ?_
      · refine st_cond hS rfl (fun hb => ?_) (fun hb => ?_)
        · have h := ite_t hb hj_26
          refine ws ?_
          obtain ⟨v_29, e_30, h⟩ := bind_some h
          obtain ⟨z_31, e_32, h⟩ := bind_some h
          refine l_start ?_
          refine s_c hS (sg (sp_move (od rfl))) rfl fun a w hS hM => ?_
          refine s_c hS (sg (sp_move (od rfl))) rfl fun a w hS hM => ?_
          refine s_c hS (sg (sp_indexAddrOS sl123 (od rfl) (od rfl) e_30)) rfl fun a w hS hM => ?_
          refine s_storeEA (k := 0) (j := s_8.2.1) (Δ := [(1, isV (α := Int) p1), (2, isA (α := S_api_Roster) p0), (5, Pr.is u_3), (7, isV (α := Int) s_8.2.1), (67, isEP Bool u_3 s_8.2.1.toNat)]) ty4 hS rfl ⟨od rfl, od rfl, odOS rfl, od rfl, odEP rfl, trivial⟩ ⟨fun _ _ _ _ h => h, fun _ _ _ _ h => h, fun _ _ _ _ h => h, fun _ _ _ _ h => h, fun _ _ _ _ h => h, trivial⟩ (odEP rfl) (odb) e_32 fun w hS hM => ?_
          have hS : St _ F0 [Item.sl (α := Bool) 4 u_3 z_31] _ w0 _ _ := hS
          refine l_end ?_
          refine et ?_
          refine st_reg mixed (by kernel_rfl) hS ?_
          refine cg (sp_assign (odb)) ?_
          refine sn fun a w hS => ?_
          cases h
          exact ⟨rfl, hS.weak ⟨od rfl, od rfl, od rfl, od rfl, od rfl, trivial⟩⟩
        have h := ite_f hb hj_26
        refine wp_skip ?_
        cases h
        exact ⟨rfl, hS.weak ⟨od rfl, od rfl, odOS rfl, od rfl, od rfl, trivial⟩⟩
      rintro e a w ⟨rfl, hS⟩
      refine exit_block ?_
      refine et ?_
      refine st_reg mixed (by kernel_rfl) hS ?_
      refine mv rfl ?_
      refine cg (sp_add (od rfl) (odi)) ?_
      refine cg (sp_assign (od rfl)) ?_
      refine sn fun a w hS => ?_
      cases h
      exact ⟨_, hN_9 _ rfl, hS.weak ⟨od rfl, od rfl, od rfl, od rfl, od rfl, trivial⟩⟩
    have h := ite_f hb h
    refine wp_exit ?_
    refine exit_thenE ?_
    cases h
    obtain rfl := hL_9 _ rfl
    have h := hr_11
    refine exit_thenE ?_
    refine exit_here ?_
    refine exit_block ?_
    cases h
    exact ⟨_, hN_5 _ rfl, hS.weak ⟨od rfl, od rfl, od rfl, od rfl, trivial⟩⟩
  have h := ite_f hb h
  refine wp_exit ?_
  refine exit_thenE ?_
  cases h
  obtain rfl := hL_5 _ rfl
  have h := hr_7
  refine exit_thenE ?_
  refine exit_here ?_
  refine et ?_
  refine ws ?_
  refine st_reg mixed (by kernel_rfl) hS ?_
  refine cg (sp_assign (φ := Pr.is (.slice none 0 0)) (odc fun _ => rfl)) ?_
  refine sn fun a w hS => ?_
  have hS := st_nil (α := Int) 3 hS
  have hS : St _ F0 [Item.sl (α := Bool) 4 u_3 s_4.2, Item.sl (α := Int) 3 (.slice none 0 0) ([] : List Int)] _ w0 _ _ := hS
  refine et ?_
  refine ws ?_
  refine ws ?_
  refine st_reg mixed (by kernel_rfl) hS ?_
  refine cg (sp_assign (odi)) ?_
  refine sn fun a w hS => ?_
  refine et ?_
  refine wp_block ?_
  obtain ⟨o_47, e_48, hr_49⟩ := bind_some h
  refine c_loop (fun K a w => ∃ s_46 : Int × (List Int), ∃ u_50 : Value, loopM _ K s_46 = some o_47 ∧ St 83 F0 [Item.sl (α := Bool) 4 u_3 s_4.2, Item.sl (α := Int) 3 u_50 s_46.2] [(5, Pr.is u_3), (10, Pr.is u_50), (11, isV (α := Int) s_46.1)] w0 a w) ?_ ?_ ⟨_, (.slice none 0 0), e_48, hS.weak ⟨od rfl, od rfl, od rfl, trivial⟩⟩
  · rintro a w ⟨_, _, hk, _⟩; cases hk
  rintro K a w ⟨s_46, u_50, hF_47, hS⟩
  obtain ⟨o, h, hN_47, hL_47⟩ := loop_more hF_47
  refine ws ?_
  refine ws ?_
  have hS := st_os 0 5 hS rfl rfl
  refine st_reg mixed (by kernel_rfl) hS ?_
  refine mv rfl ?_
  refine mv rfl ?_
  refine cg (sp_lenOS Tryz.underlying123 (od rfl)) ?_
  refine cg (sp_lss (od rfl) (od rfl)) ?_
  refine sn fun a w hS => ?_
  refine et ?_
  refine st_cond hS rfl (fun hb => ?_) (fun hb => ?_)
  · have h := ite_t hb h
    refine wp_skip ?_
    refine et ?_
    refine ws ?_
    refine wp_block ?_
    refine ws ?_
    obtain ⟨v_51, e_52, h⟩ := bind_some h
    refine st_reg mixed (by kernel_rfl) hS ?_
    refine mv rfl ?_
    refine mv rfl ?_
    refine cg (sp_indexAddrOS sl123 (od rfl) (od rfl) e_52) ?_
    refine cg (sp_loadEA ty4 (od rfl)) ?_
    refine sn fun a w hS => ?_
    refine et ?_
    obtain ⟨y_54, hj_53, h⟩ := bind_some h
    refine wp_mono (Q := fun e a w => e = Exit.normal ∧ ∃ u_55 : Value, St 83 F0 [Item.sl (α := Bool) 4 u_3 s_4.2, Item.sl (α := Int) 3 u_55 y_54] [(5, Pr.is u_3), (10, Pr.is u_55), (11, isV (α := Int) s_46.1)] w0 a w) ?_ ?_
    · refine st_cond hS rfl (fun hb => ?_) (fun hb => ?_)
      · have h := ite_t hb hj_53
        obtain ⟨z_56, e_57, h⟩ := bind_some h
        refine l_start ?_
        refine s_c hS (sg (sp_move (od rfl))) rfl fun a w hS hM => ?_
        refine s_c hS (sg (sp_move (od rfl))) rfl fun a w hS hM => ?_
        refine s_c hS (sg (sp_buildSlice [.tmp 79] ([s_46.1] : List Int) sl26 ze3 rfl rfl rfl rfl ⟨od rfl, trivial⟩)) rfl fun a w hS hM => ?_
        refine s_append (k := 1) (Δ := [(5, Pr.is u_3), (11, isV (α := Int) s_46.1), (78, Pr.is u_50), (80, isV (α := List Int) ([s_46.1] : List Int))]) sl26 ze3 hS rfl ⟨odOS rfl, od rfl, od rfl, od rfl, trivial⟩ ⟨fun _ _ _ _ h => h, fun _ _ _ _ h => h, fun _ _ _ _ h => h, fun _ _ _ _ h => h, trivial⟩ (od rfl) (od rfl) e_57 rfl fun a w u_58 hS hM => ?_
        have hS : St _ F0 [Item.sl (α := Bool) 4 u_3 s_4.2, Item.sl (α := Int) 3 u_58 z_56] _ w0 _ _ := hS
        refine s_c hS (sg (sp_assign (od rfl))) rfl fun a w hS hM => ?_
        refine l_end ?_
        cases h
        exact ⟨rfl, u_58, hS.weak ⟨od rfl, od rfl, od rfl, trivial⟩⟩
      have h := ite_f hb hj_53
      refine wp_skip ?_
      cases h
      exact ⟨rfl, u_50, hS.weak ⟨odOS rfl, od rfl, od rfl, trivial⟩⟩
    rintro e a w ⟨rfl, u_55, hS⟩
    refine exit_block ?_
    refine et ?_
    refine st_reg mixed (by kernel_rfl) hS ?_
    refine mv rfl ?_
    refine cg (sp_add (od rfl) (odi)) ?_
    refine cg (sp_assign (od rfl)) ?_
    refine sn fun a w hS => ?_
    cases h
    exact ⟨_, u_55, hN_47 _ rfl, hS.weak ⟨od rfl, od rfl, od rfl, trivial⟩⟩
  have h := ite_f hb h
  refine wp_exit ?_
  refine exit_thenE ?_
  cases h
  obtain rfl := hL_47 _ rfl
  have h := hr_49
  refine exit_thenE ?_
  refine exit_here ?_
  refine et ?_
  refine ws ?_
  have hS := st_drop 0 hS
  refine st_reg mixed (by kernel_rfl) hS ?_
  refine mv rfl ?_
  refine cg (sp_assign (od rfl)) ?_
  refine sn fun a w hS => ?_
  refine et ?_
  refine wp_ret ?_
  have hS0 := hS
  have hS := st_freeze 0 4 hS rfl rfl
  have hS := st_also (t := 4) (q := 10) hS0 hS rfl rfl rfl
  have hS := st_also (t := 4) (q := 82) hS0 hS rfl rfl rfl
  cases h
  exact st_ret hS (run_results1 Tryz.results76 a w) (hS.get rfl)

theorem f19_ok {fuel : Nat} {p0 : S_api_Roster} {p1 : Int} {r : (List Int) × Int} (h : M.f19 fuel p0 p1 = some r) : CallOK Tryz.prog 19 [isV p0, isV p1] (isTup [isV r.1, isV r.2]) := by
  unfold M.f19 at h
  refine callS_of Tryz.func19 rfl Tryz.ntmps19 rfl fun F0 w0 a hS => ?_
  refine ws ?_
  refine st_reg mixed (by kernel_rfl) hS ?_
  refine cg (sp_box (od rfl)) ?_
  refine cg (sp_assign (odnil (α := Int))) ?_
  refine cg (sp_assign (odi)) ?_
  refine sn fun a w hS => ?_
  refine et ?_
  refine ws ?_
  obtain ⟨v_1, e_2, h⟩ := bind_some h
  refine st_reg mixed (by kernel_rfl) hS ?_
  refine cg (sp_load ty25 (od rfl)) ?_
  refine mv rfl ?_
  refine cg (sp_call en75 (f75_ok e_2) ⟨od rfl, od rfl, trivial⟩) ?_
  refine cg (sp_assign (od rfl)) ?_
  refine sn fun a w hS => ?_
  refine et ?_
  refine ws ?_
  refine ws ?_
  refine st_reg mixed (by kernel_rfl) hS ?_
  refine mv rfl ?_
  refine cg (sp_neq (od rfl) (odi)) ?_
  refine sn fun a w hS => ?_
  refine et ?_
  refine st_cond hS rfl (fun hb => ?_) (fun hb => ?_)
  · have h := ite_t hb h
    refine ws ?_
    refine st_reg mixed (by kernel_rfl) hS ?_
    refine mv rfl ?_
    refine cg (sp_assign (odnil (α := Int))) ?_
    refine cg (sp_assign (od rfl)) ?_
    refine sn fun a w hS => ?_
    refine et ?_
    refine wp_ret ?_
    refine exit_thenR ?_
    cases h
    exact st_ret hS (run_results2 Tryz.results19 a w) (⟨_, rfl, hS.get rfl, hS.get rfl, trivial⟩)
  have h := ite_f hb h
  refine wp_skip ?_
  refine et ?_
  refine ws ?_
  obtain ⟨v_3, e_4, h⟩ := bind_some h
  refine st_reg mixed (by kernel_rfl) hS ?_
  refine cg (sp_load ty25 (od rfl)) ?_
  refine mv rfl ?_
  refine cg (sp_call en76 (f76_ok e_4) ⟨od rfl, od rfl, trivial⟩) ?_
  refine cg (sp_assign (od rfl)) ?_
  refine cg (sp_assign (odi)) ?_
  refine sn fun a w hS => ?_
  refine et ?_
  refine wp_ret ?_
  cases h
  exact st_ret hS (run_results2 Tryz.results19 a w) (⟨_, rfl, hS.get rfl, hS.get rfl, trivial⟩)

theorem f21_ok {fuel : Nat} {p0 : S_api_Roster} {p1 : Int} {r : (List Int) × Bool × Int} (h : M.f21 fuel p0 p1 = some r) : CallOK Tryz.prog 21 [isV p0, isV p1] (isTup [isV r.1, isV r.2.1, isV r.2.2]) := by
  unfold M.f21 at h
  refine callS_of Tryz.func21 rfl Tryz.ntmps21 rfl fun F0 w0 a hS => ?_
  refine ws ?_
  refine st_reg mixed (by kernel_rfl) hS ?_
  refine cg (sp_box (od rfl)) ?_
  refine cg (sp_assign (odnil (α := Int))) ?_
  refine cg (sp_assign (odb)) ?_
  refine cg (sp_assign (odi)) ?_
  refine sn fun a w hS => ?_
  refine et ?_
  refine ws ?_
  obtain ⟨v_1, e_2, h⟩ := bind_some h
  refine st_reg mixed (by kernel_rfl) hS ?_
  refine cg (sp_load ty25 (od rfl)) ?_
  refine mv rfl ?_
  refine cg (sp_call en75 (f75_ok e_2) ⟨od rfl, od rfl, trivial⟩) ?_
  refine cg (sp_assign (od rfl)) ?_
  refine sn fun a w hS => ?_
  refine et ?_
  refine ws ?_
  refine ws ?_
  refine st_reg mixed (by kernel_rfl) hS ?_
  refine mv rfl ?_
  refine cg (sp_neq (od rfl) (odi)) ?_
  refine sn fun a w hS => ?_
  refine et ?_
  refine st_cond hS rfl (fun hb => ?_) (fun hb => ?_)
  · have h := ite_t hb h
    refine ws ?_
    refine st_reg mixed (by kernel_rfl) hS ?_
    refine mv rfl ?_
    refine cg (sp_assign (odnil (α := Int))) ?_
    refine cg (sp_assign (odb)) ?_
    refine cg (sp_assign (od rfl)) ?_
    refine sn fun a w hS => ?_
    refine et ?_
    refine wp_ret ?_
    refine exit_thenR ?_
    cases h
    exact st_ret hS (run_results3 Tryz.results21 a w) (⟨_, rfl, hS.get rfl, hS.get rfl, hS.get rfl, trivial⟩)
  have h := ite_f hb h
  refine wp_skip ?_
  refine et ?_
  refine ws ?_
  obtain ⟨v_3, e_4, h⟩ := bind_some h
  refine st_reg mixed (by kernel_rfl) hS ?_
  refine cg (sp_load ty25 (od rfl)) ?_
  refine mv rfl ?_
  refine cg (sp_call en78 (f78_ok e_4) ⟨od rfl, od rfl, odb, trivial⟩) ?_
  refine cg (sp_assign (od rfl)) ?_
  refine sn fun a w hS => ?_
  refine et ?_
  refine ws ?_
  refine ws ?_
  refine st_reg mixed (by kernel_rfl) hS ?_
  refine mv rfl ?_
  refine cg (sp_len Tryz.underlying26 (od rfl)) ?_
  refine cg (sp_gtr (od rfl) (odi)) ?_
  refine sn fun a w hS => ?_
  refine et ?_
  refine st_cond hS rfl (fun hb => ?_) (fun hb => ?_)
  · have h := ite_t hb h
    refine ws ?_
    refine st_reg mixed (by kernel_rfl) hS ?_
    refine cg (sp_assign (odnil (α := Int))) ?_
    refine cg (sp_assign (odb)) ?_
    refine cg (sp_assign (odi)) ?_
    refine sn fun a w hS => ?_
    refine et ?_
    refine wp_ret ?_
    refine exit_thenR ?_
    cases h
    exact st_ret hS (run_results3 Tryz.results21 a w) (⟨_, rfl, hS.get rfl, hS.get rfl, hS.get rfl, trivial⟩)
  have h := ite_f hb h
  refine wp_skip ?_
  refine et ?_
  refine ws ?_
  obtain ⟨v_5, e_6, h⟩ := bind_some h
  refine st_reg mixed (by kernel_rfl) hS ?_
  refine cg (sp_load ty25 (od rfl)) ?_
  refine mv rfl ?_
  refine cg (sp_call en76 (f76_ok e_6) ⟨od rfl, od rfl, trivial⟩) ?_
  refine cg (sp_assign (od rfl)) ?_
  refine cg (sp_assign (odb)) ?_
  refine cg (sp_assign (odi)) ?_
  refine sn fun a w hS => ?_
  refine et ?_
  refine wp_ret ?_
  cases h
  exact st_ret hS (run_results3 Tryz.results21 a w) (⟨_, rfl, hS.get rfl, hS.get rfl, hS.get rfl, trivial⟩)

theorem f23_ok {fuel : Nat} {p0 : S_api_Roster} {p1 : Int} {r : (List Int) × Int} (h : M.f23 fuel p0 p1 = some r) : CallOK Tryz.prog 23 [isV p0, isV p1] (isTup [isV r.1, isV r.2]) := by
  unfold M.f23 at h
  refine callS_of Tryz.func23 rfl Tryz.ntmps23 rfl fun F0 w0 a hS => ?_
  refine ws ?_
  refine st_reg mixed (by kernel_rfl) hS ?_
  refine cg (sp_box (od rfl)) ?_
  refine cg (sp_assign (odnil (α := Int))) ?_
  refine cg (sp_assign (odi)) ?_
  refine sn fun a w hS => ?_
  refine et ?_
  refine ws ?_
  obtain ⟨v_1, e_2, h⟩ := bind_some h
  refine st_reg mixed (by kernel_rfl) hS ?_
  refine cg (sp_load ty25 (od rfl)) ?_
  refine mv rfl ?_
  refine cg (sp_call en75 (f75_ok e_2) ⟨od rfl, od rfl, trivial⟩) ?_
  refine cg (sp_assign (od rfl)) ?_
  refine sn fun a w hS => ?_
  refine et ?_
  refine ws ?_
  refine ws ?_
  refine st_reg mixed (by kernel_rfl) hS ?_
  refine mv rfl ?_
  refine cg (sp_neq (od rfl) (odi)) ?_
  refine sn fun a w hS => ?_
  refine et ?_
  refine st_cond hS rfl (fun hb => ?_) (fun hb => ?_)
  · have h := ite_t hb h
    refine ws ?_
    refine st_reg mixed (by kernel_rfl) hS ?_
    refine mv rfl ?_
    refine cg (sp_assign (odnil (α := Int))) ?_
    refine cg (sp_assign (od rfl)) ?_
    refine sn fun a w hS => ?_
    refine et ?_
    refine wp_ret ?_
    refine exit_thenR ?_
    cases h
    exact st_ret hS (run_results2 Tryz.results23 a w) (⟨_, rfl, hS.get rfl, hS.get rfl, trivial⟩)
  have h := ite_f hb h
  refine wp_skip ?_
  refine et ?_
  refine ws ?_
  obtain ⟨v_3, e_4, h⟩ := bind_some h
  refine st_reg mixed (by kernel_rfl) hS ?_
  refine cg (sp_load ty25 (od rfl)) ?_
  refine mv rfl ?_
  refine cg (sp_call en78 (f78_ok e_4) ⟨od rfl, od rfl, odb, trivial⟩) ?_
  refine cg (sp_assign (od rfl)) ?_
  refine sn fun a w hS => ?_
  refine et ?_
  refine ws ?_
  refine ws ?_
  refine st_reg mixed (by kernel_rfl) hS ?_
  refine mv rfl ?_
  refine cg (sp_len Tryz.underlying26 (od rfl)) ?_
  refine cg (sp_eql (od rfl) (odi)) ?_
  refine sn fun a w hS => ?_
  refine et ?_
  refine st_cond hS rfl (fun hb => ?_) (fun hb => ?_)
  · have h := ite_t hb h
    refine ws ?_
    refine st_reg mixed (by kernel_rfl) hS ?_
    refine cg (sp_assign (odnil (α := Int))) ?_
    refine cg (sp_assign (odi)) ?_
    refine sn fun a w hS => ?_
    refine et ?_
    refine wp_ret ?_
    refine exit_thenR ?_
    cases h
    exact st_ret hS (run_results2 Tryz.results23 a w) (⟨_, rfl, hS.get rfl, hS.get rfl, trivial⟩)
  have h := ite_f hb h
  refine wp_skip ?_
  refine et ?_
  refine ws ?_
  obtain ⟨v_5, e_6, h⟩ := bind_some h
  refine st_reg mixed (by kernel_rfl) hS ?_
  refine cg (sp_load ty25 (od rfl)) ?_
  refine mv rfl ?_
  refine cg (sp_call en54 (f54_ok e_6) ⟨od rfl, od rfl, trivial⟩) ?_
  refine mv rfl ?_
  refine cg (sp_extract (od rfl) rfl) ?_
  refine cg (sp_extract (od rfl) rfl) ?_
  refine cg (sp_assign (od rfl)) ?_
  refine cg (sp_assign (od rfl)) ?_
  refine sn fun a w hS => ?_
  refine et ?_
  refine ws ?_
  refine st_reg mixed (by kernel_rfl) hS ?_
  refine cg (sp_assign (φ := Pr.is (.slice none 0 0)) (odc fun _ => rfl)) ?_
  refine sn fun a w hS => ?_
  have hS := st_nil (α := Int) 3 hS
  have hS : St _ F0 [Item.sl (α := Int) 3 (.slice none 0 0) ([] : List Int)] _ w0 _ _ := hS
  refine et ?_
  refine ws ?_
  refine ws ?_
  refine st_reg mixed (by kernel_rfl) hS ?_
  refine cg (sp_assign (odi)) ?_
  refine sn fun a w hS => ?_
  refine et ?_
  refine wp_block ?_
  obtain ⟨o_8, e_9, hr_10⟩ := bind_some h
  refine c_loop (fun K a w => ∃ s_7 : Int × (List Int), ∃ u_11 : Value, loopM _ K s_7 = some o_8 ∧ St 124 F0 [Item.sl (α := Int) 3 u_11 s_7.2] [(1, isV (α := Int) p1), (2, isA (α := S_api_Roster) p0), (8, isV (α := Int) v_5.1), (10, Pr.is u_11), (11, isV (α := Int) s_7.1)] w0 a w) ?_ ?_ ⟨_, (.slice none 0 0), e_9, hS.weak ⟨od rfl, od rfl, od rfl, od rfl, od rfl, trivial⟩⟩
  · rintro a w ⟨_, _, hk, _⟩; cases hk
  rintro K a w ⟨s_7, u_11, hF_8, hS⟩
  obtain ⟨o, h, hN_8, hL_8⟩ := loop_more hF_8
  refine ws ?_
  refine ws ?_
  refine st_reg mixed (by kernel_rfl) hS ?_
  refine mv rfl ?_
  refine cg (sp_fieldAddr fd25_4 (od rfl)) ?_
  refine cg (sp_load ty23 (od rfl)) ?_
  refine cg (sp_len Tryz.underlying23 (od rfl)) ?_
  refine cg (sp_lss (od rfl) (od rfl)) ?_
  refine sn fun a w hS => ?_
  refine et ?_
  refine st_cond hS rfl (fun hb => ?_) (fun hb => ?_)
  · have h := ite_t hb h
    refine wp_skip ?_
    refine et ?_
    refine ws ?_
    refine wp_block ?_
    refine ws ?_
    obtain ⟨v_12, e_13, h⟩ := bind_some h
    refine l_start ?_
    refine s_c hS (sg (sp_fieldAddr fd25_4 (od rfl))) rfl fun a w hS hM => ?_
    refine s_c hS (sg (sp_load ty23 (od rfl))) rfl fun a w hS hM => ?_
    refine s_c hS (sg (sp_move (od rfl))) rfl fun a w hS hM => ?_
    refine s_c hS (sg (sp_indexAddr sl23 (od rfl) (od rfl) e_13)) rfl fun a w hS hM => ?_
    refine s_c hS (sg (sp_load ty45 (od rfl))) rfl fun a w hS hM => ?_
    refine s_allocStore ze45 hS (od rfl) (fun k hk => by cases hk; rfl) rfl fun a w hS hM => ?_
    refine l_end ?_
    refine et ?_
    refine ws ?_
    refine st_reg mixed (by kernel_rfl) hS ?_
    refine cg (sp_assign (odi)) ?_
    refine sn fun a w hS => ?_
    refine et ?_
    refine ws ?_
    refine ws ?_
    refine st_reg mixed (by kernel_rfl) hS ?_
    refine cg (sp_fieldAddr fd45_0 (od rfl)) ?_
    refine cg (sp_load ty3 (od rfl)) ?_
    refine mv rfl ?_
    refine cg (sp_eql (od rfl) (od rfl)) ?_
    refine sn fun a w hS => ?_
    refine et ?_
    obtain ⟨y_15, hj_14, h⟩ := bind_some h
    refine wp_mono (Q := fun e a w => e = Exit.normal ∧ St 124 F0 [Item.sl (α := Int) 3 u_11 s_7.2] [(1, isV (α := Int) p1), (2, isA (α := S_api_Roster) p0), (8, isV (α := Int) v_5.1), (10, Pr.is u_11), (11, isV (α := Int) s_7.1), (12, isA (α := S_api_Turn) v_12), (13, isV (α := Int) y_15)] w0 a w) ?_ ?_
    · refine st_cond hS rfl (fun hb => ?_) (fun hb => ?_)
      · have h := ite_t hb hj_14
        refine st_reg mixed (by kernel_rfl) hS ?_
        refine mv rfl ?_
        refine cg (sp_assign (od rfl)) ?_
        refine sn fun a w hS => ?_
        cases h
        exact ⟨rfl, hS.weak ⟨od rfl, od rfl, od rfl, od rfl, od rfl, od rfl, od rfl, trivial⟩⟩
      have h := ite_f hb hj_14
      refine wp_skip ?_
      cases h
      exact ⟨rfl, hS.weak ⟨od rfl, od rfl, od rfl, od rfl, od rfl, od rfl, od rfl, trivial⟩⟩
    rintro e a w ⟨rfl, hS⟩
    refine et ?_
    refine ws ?_
    refine ws ?_
    obtain ⟨v_16, e_17, h⟩ := bind_some h
    refine st_reg mixed (by kernel_rfl) hS ?_
    refine cg (sp_fieldAddr fd45_0 (od rfl)) ?_
    refine cg (sp_load ty3 (od rfl)) ?_
    refine mv rfl ?_
    refine cg (sp_eql (od rfl) (od rfl)) ?_
    refine mv rfl ?_
    refine sc (sgT rfl fun hG => sp_load ty25 (od rfl)) ?_
    refine sc (sgT rfl fun hG => sp_move (od rfl)) ?_
    refine sc (sgT rfl fun hG => sp_call en83 (f83_ok (guard_some e_17 hG)) ⟨odw rfl hG, odw rfl hG, trivial⟩) ?_
    refine cg (sp_pickAnd (od rfl) fun hg => odw rfl hg) ?_
    refine sn fun a w hS => ?_
    refine et ?_
    obtain ⟨y_19, hj_18, h⟩ := bind_some h
    refine wp_mono (Q := fun e a w => e = Exit.normal ∧ St 124 F0 [Item.sl (α := Int) 3 u_11 s_7.2] [(1, isV (α := Int) p1), (2, isA (α := S_api_Roster) p0), (8, isV (α := Int) v_5.1), (10, Pr.is u_11), (11, isV (α := Int) s_7.1), (13, isV (α := Int) y_19)] w0 a w) ?_ ?_
    · refine st_cond hS rfl (fun hb => ?_) (fun hb => ?_)
      · have h := ite_t hb hj_18
        refine st_reg mixed (by kernel_rfl) hS ?_
        refine mv rfl ?_
        refine cg (sp_fieldAddr fd45_5 (od rfl)) ?_
        refine cg (sp_load ty3 (od rfl)) ?_
        refine cg (sp_min (od rfl) (od rfl)) ?_
        refine cg (sp_assign (od rfl)) ?_
        refine sn fun a w hS => ?_
        cases h
        exact ⟨rfl, hS.weak ⟨od rfl, od rfl, od rfl, od rfl, od rfl, od rfl, trivial⟩⟩
      have h := ite_f hb hj_18
      refine wp_skip ?_
      cases h
      exact ⟨rfl, hS.weak ⟨od rfl, od rfl, od rfl, od rfl, od rfl, od rfl, trivial⟩⟩
    rintro e a w ⟨rfl, hS⟩
    refine et ?_
    obtain ⟨z_20, e_21, h⟩ := bind_some h
    refine l_start ?_
    refine s_c hS (sg (sp_move (od rfl))) rfl fun a w hS hM => ?_
    refine s_c hS (sg (sp_move (od rfl))) rfl fun a w hS hM => ?_
    refine s_c hS (sg (sp_buildSlice [.tmp 66] ([y_19] : List Int) sl26 ze3 rfl rfl rfl rfl ⟨od rfl, trivial⟩)) rfl fun a w hS hM => ?_
    refine s_append (k := 0) (Δ := [(1, isV (α := Int) p1), (2, isA (α := S_api_Roster) p0), (8, isV (α := Int) v_5.1), (11, isV (α := Int) s_7.1), (65, Pr.is u_11), (67, isV (α := List Int) ([y_19] : List Int))]) sl26 ze3 hS rfl ⟨od rfl, od rfl, od rfl, od rfl, od rfl, od rfl, trivial⟩ ⟨fun _ _ _ _ h => h, fun _ _ _ _ h => h, fun _ _ _ _ h => h, fun _ _ _ _ h => h, fun _ _ _ _ h => h, fun _ _ _ _ h => h, trivial⟩ (od rfl) (od rfl) e_21 rfl fun a w u_22 hS hM => ?_
    have hS : St _ F0 [Item.sl (α := Int) 3 u_22 z_20] _ w0 _ _ := hS
    refine s_c hS (sg (sp_assign (od rfl))) rfl fun a w hS hM => ?_
    refine l_end ?_
    refine exit_block ?_
    refine et ?_
    refine st_reg mixed (by kernel_rfl) hS ?_
    refine mv rfl ?_
    refine cg (sp_add (od rfl) (odi)) ?_
    refine cg (sp_assign (od rfl)) ?_
    refine sn fun a w hS => ?_
    cases h
    exact ⟨_, u_22, hN_8 _ rfl, hS.weak ⟨od rfl, od rfl, od rfl, od rfl, od rfl, trivial⟩⟩
  have h := ite_f hb h
  refine wp_exit ?_
  refine exit_thenE ?_
  cases h
  obtain rfl := hL_8 _ rfl
  have h := hr_10
  refine exit_thenE ?_
  refine exit_here ?_
  refine et ?_
  refine ws ?_
  refine ws ?_
  refine st_reg mixed (by kernel_rfl) hS ?_
  refine cg (sp_assign (odi)) ?_
  refine sn fun a w hS => ?_
  refine et ?_
  refine wp_block ?_
  obtain ⟨o_24, e_25, hr_26⟩ := bind_some h
  refine c_loop (fun K a w => ∃ s_23 : Int × (List Int), loopM _ K s_23 = some o_24 ∧ St 124 F0 [Item.sl (α := Int) 3 u_11 s_23.2] [(1, isV (α := Int) p1), (2, isA (α := S_api_Roster) p0), (10, Pr.is u_11), (14, isV (α := Int) s_23.1)] w0 a w) ?_ ?_ ⟨_, e_25, hS.weak ⟨od rfl, od rfl, od rfl, od rfl, trivial⟩⟩
  · rintro a w ⟨_, hk, _⟩; cases hk
  rintro K a w ⟨s_23, hF_24, hS⟩
  obtain ⟨o, h, hN_24, hL_24⟩ := loop_more hF_24
  refine ws ?_
  refine ws ?_
  refine st_reg mixed (by kernel_rfl) hS ?_
  refine mv rfl ?_
  refine cg (sp_fieldAddr fd25_4 (od rfl)) ?_
  refine cg (sp_load ty23 (od rfl)) ?_
  refine cg (sp_len Tryz.underlying23 (od rfl)) ?_
  refine cg (sp_lss (od rfl) (od rfl)) ?_
  refine sn fun a w hS => ?_
  refine et ?_
  refine st_cond hS rfl (fun hb => ?_) (fun hb => ?_)
  · have h := ite_t hb h
    refine wp_skip ?_
    refine et ?_
    refine ws ?_
    refine wp_block ?_
    refine ws ?_
    refine st_reg mixed (by kernel_rfl) hS ?_
    refine cg (sp_assign (odi)) ?_
    refine sn fun a w hS => ?_
    refine et ?_
    refine wp_block ?_
    obtain ⟨o_28, e_29, hr_30⟩ := bind_some h
    refine c_loop (fun K a w => ∃ s_27 : Int × (List Int), loopM _ K s_27 = some o_28 ∧ St 124 F0 [Item.sl (α := Int) 3 u_11 s_27.2] [(1, isV (α := Int) p1), (2, isA (α := S_api_Roster) p0), (10, Pr.is u_11), (14, isV (α := Int) s_23.1), (15, isV (α := Int) s_27.1)] w0 a w) ?_ ?_ ⟨_, e_29, hS.weak ⟨od rfl, od rfl, od rfl, od rfl, od rfl, trivial⟩⟩
    · rintro a w ⟨_, hk, _⟩; cases hk
    rintro K a w ⟨s_27, hF_28, hS⟩
    obtain ⟨o, h, hN_28, hL_28⟩ := loop_more hF_28
    refine ws ?_
    refine ws ?_
    refine st_reg mixed (by kernel_rfl) hS ?_
    refine mv rfl ?_
    refine cg (sp_fieldAddr fd25_4 (od rfl)) ?_
    refine cg (sp_load ty23 (od rfl)) ?_
    refine cg (sp_len Tryz.underlying23 (od rfl)) ?_
    refine cg (sp_lss (od rfl) (od rfl)) ?_
    refine sn fun a w hS => ?_
    refine et ?_
    refine st_cond hS rfl (fun hb => ?_) (fun hb => ?_)
    · have h := ite_t hb h
      refine wp_skip ?_
      refine et ?_
      refine ws ?_
      refine wp_block ?_
      refine ws ?_
      refine st_reg mixed (by kernel_rfl) hS ?_
      refine cg (sp_assign (odi)) ?_
      refine sn fun a w hS => ?_
      refine et ?_
      refine wp_block ?_
      obtain ⟨o_32, e_33, hr_34⟩ := bind_some h
      refine c_loop (fun K a w => ∃ s_31 : Int × (List Int), loopM _ K s_31 = some o_32 ∧ St 124 F0 [Item.sl (α := Int) 3 u_11 s_31.2] [(1, isV (α := Int) p1), (2, isA (α := S_api_Roster) p0), (10, Pr.is u_11), (14, isV (α := Int) s_23.1), (15, isV (α := Int) s_27.1), (16, isV (α := Int) s_31.1)] w0 a w) ?_ ?_ ⟨_, e_33, hS.weak ⟨od rfl, od rfl, od rfl, od rfl, od rfl, od rfl, trivial⟩⟩
      · rintro a w ⟨_, hk, _⟩; cases hk
      rintro K a w ⟨s_31, hF_32, hS⟩
      obtain ⟨o, h, hN_32, hL_32⟩ := loop_more hF_32
      refine ws ?_
      refine ws ?_
      refine st_reg mixed (by kernel_rfl) hS ?_
      refine mv rfl ?_
      refine cg (sp_fieldAddr fd25_4 (od rfl)) ?_
      refine cg (sp_load ty23 (od rfl)) ?_
      refine cg (sp_len Tryz.underlying23 (od rfl)) ?_
      refine cg (sp_lss (od rfl) (od rfl)) ?_
      refine sn fun a w hS => ?_
      refine et ?_
      refine st_cond hS rfl (fun hb => ?_) (fun hb => ?_)
      · have h := ite_t hb h
        refine wp_skip ?_
        refine et ?_
        refine ws ?_
        refine wp_block ?_
        refine ws ?_
        obtain ⟨v_35, e_36, h⟩ := bind_some h
        obtain ⟨v_37, e_38, h⟩ := bind_some h
        refine st_reg mixed (by kernel_rfl) hS ?_
        refine cg (sp_fieldAddr fd25_4 (od rfl)) ?_
        refine cg (sp_load ty23 (od rfl)) ?_
        refine mv rfl ?_
        refine cg (sp_indexAddr sl23 (od rfl) (od rfl) e_36) ?_
        refine cg (sp_fieldAddr fd45_0 (od rfl)) ?_
        refine cg (sp_load ty3 (od rfl)) ?_
        refine mv rfl ?_
        refine cg (sp_eql (od rfl) (od rfl)) ?_
        refine mv rfl ?_
        refine sc (sgT rfl fun hG => sp_load ty25 (od rfl)) ?_
        refine sc (sgT rfl fun hG => sp_move (od rfl)) ?_
        refine sc (sgT rfl fun hG => sp_move (od rfl)) ?_
        refine sc (sgT rfl fun hG => sp_call en84 (f84_ok (guard_some e_38 hG)) ⟨odw rfl hG, odw rfl hG, odw rfl hG, trivial⟩) ?_
        refine cg (sp_pickAnd (od rfl) fun hg => odw rfl hg) ?_
        refine sn fun a w hS => ?_
        refine et ?_
        obtain ⟨y_40, hj_39, h⟩ := bind_some h
        refine wp_mono (Q := fun e a w => e = Exit.normal ∧ St 124 F0 [Item.sl (α := Int) 3 u_11 y_40] [(1, isV (α := Int) p1), (2, isA (α := S_api_Roster) p0), (10, Pr.is u_11), (14, isV (α := Int) s_23.1), (15, isV (α := Int) s_27.1), (16, isV (α := Int) s_31.1)] w0 a w) ?_ ?_
        · refine st_cond hS rfl (fun hb => ?_) (fun hb => ?_)
          · have h := ite_t hb hj_39
            have hS := st_os 0 10 hS rfl rfl
            obtain ⟨v_41, e_42, h⟩ := bind_some h
            obtain ⟨v_43, e_44, h⟩ := bind_some h
            obtain ⟨v_45, e_46, h⟩ := bind_some h
            obtain ⟨v_47, e_48, h⟩ := bind_some h
            obtain ⟨z_49, e_50, h⟩ := bind_some h
            refine st_float mixed [0, 0, 0, 0, 0, 0, 0, 0, 0, 0, 0, 0, 0, 0, 0, 0, 0, 0, 0, 2] (by kernel_rfl) (by kernel_rfl) hS ?_
            refine sfA (sg (sp_move (od rfl))) ?_
            refine sfA (sg (sp_move (od rfl))) ?_
            refine sfA (sg (sp_move (od rfl))) ?_
            refine sfA (sg (sp_move (od rfl))) ?_
            refine sfA (sg (sp_indexAddrOS sl26 (od rfl) (od rfl) e_42)) ?_
            refine sfA (sg (sp_loadEA ty3 (od rfl))) ?_
            refine sfA (sg (sp_move (od rfl))) ?_
            refine sfA (sg (sp_move (od rfl))) ?_
            refine sfA (sg (sp_indexAddrOS sl26 (od rfl) (od rfl) e_44)) ?_
            refine sfA (sg (sp_loadEA ty3 (od rfl))) ?_
            refine sfA (sg (sp_fieldAddr fd25_4 (od rfl))) ?_
            refine sfA (sg (sp_load ty23 (od rfl))) ?_
            refine sfA (sg (sp_move (od rfl))) ?_
            refine sfA (sg (sp_indexAddr sl23 (od rfl) (od rfl) e_46)) ?_
            refine sfA (sg (sp_fieldAddr fd45_5 (od rfl))) ?_
            refine sfA (sg (sp_load ty3 (od rfl))) ?_
            refine sfA (sg (sp_add (od rfl) (od rfl))) ?_
            refine sfA (sg (sp_min (od rfl) (od rfl))) ?_
            refine sfA (sg (sp_indexAddrOS sl26 (od rfl) (od rfl) e_48)) ?_
            refine sfT ?_
            refine sfN fun c a w hS hC => ?_
            refine ls ?_
            refine s_storeEA (k := 0) (j := s_31.1) (Δ := [(1, isV (α := Int) p1), (2, isA (α := S_api_Roster) p0), (10, Pr.is u_11), (14, isV (α := Int) s_23.1), (15, isV (α := Int) s_27.1), (16, isV (α := Int) s_31.1), (121, isV (α := Int) (imin v_41 (wr (v_43 + v_45.2.2.2.2.2)))), (122, isEP Int u_11 s_31.1.toNat)]) ty3 hS rfl ⟨od rfl, od rfl, odOS rfl, od rfl, od rfl, od rfl, od rfl, odEP rfl, trivial⟩ ⟨fun _ _ _ _ h => h, fun _ _ _ _ h => h, fun _ _ _ _ h => h, fun _ _ _ _ h => h, fun _ _ _ _ h => h, fun _ _ _ _ h => h, fun _ _ _ _ h => h, fun _ _ _ _ h => h, trivial⟩ (odEP rfl) (od rfl) e_50 fun w hS hM => ?_
            have hS : St _ F0 [Item.sl (α := Int) 3 u_11 z_49] _ w0 _ _ := hS
            have hC := Mem.le_trans hC hM
            refine s_next hC ?_
            refine s_done ?_
            cases h
            exact ⟨rfl, hS.weak ⟨od rfl, od rfl, od rfl, od rfl, od rfl, od rfl, trivial⟩⟩
          have h := ite_f hb hj_39
          refine wp_skip ?_
          cases h
          exact ⟨rfl, hS.weak ⟨od rfl, od rfl, od rfl, od rfl, od rfl, od rfl, trivial⟩⟩
        rintro e a w ⟨rfl, hS⟩
        refine exit_block ?_
        refine et ?_
        refine st_reg mixed (by kernel_rfl) hS ?_
        refine mv rfl ?_
        refine cg (sp_add (od rfl) (odi)) ?_
        refine cg (sp_assign (od rfl)) ?_
        refine sn fun a w hS => ?_
        cases h
        exact ⟨_, hN_32 _ rfl, hS.weak ⟨od rfl, od rfl, od rfl, od rfl, od rfl, od rfl, trivial⟩⟩
      have h := ite_f hb h
      refine wp_exit ?_
      refine exit_thenE ?_
      cases h
      obtain rfl := hL_32 _ rfl
      have h := hr_34
      refine exit_thenE ?_
      refine exit_here ?_
      refine exit_block ?_
      refine et ?_
      refine st_reg mixed (by kernel_rfl) hS ?_
      refine mv rfl ?_
      refine cg (sp_add (od rfl) (odi)) ?_
      refine cg (sp_assign (od rfl)) ?_
      refine sn fun a w hS => ?_
      cases h
      exact ⟨_, hN_28 _ rfl, hS.weak ⟨od rfl, od rfl, od rfl, od rfl, od rfl, trivial⟩⟩
    have h := ite_f hb h
    refine wp_exit ?_
    refine exit_thenE ?_
    cases h
    obtain rfl := hL_28 _ rfl
    have h := hr_30
    refine exit_thenE ?_
    refine exit_here ?_
    refine exit_block ?_
    refine et ?_
    refine st_reg mixed (by kernel_rfl) hS ?_
    refine mv rfl ?_
    refine cg (sp_add (od rfl) (odi)) ?_
    refine cg (sp_assign (od rfl)) ?_
    refine sn fun a w hS => ?_
    cases h
    exact ⟨_, hN_24 _ rfl, hS.weak ⟨od rfl, od rfl, od rfl, od rfl, trivial⟩⟩
  have h := ite_f hb h
  refine wp_exit ?_
  refine exit_thenE ?_
  cases h
  obtain rfl := hL_24 _ rfl
  have h := hr_26
  refine exit_thenE ?_
  refine exit_here ?_
  refine et ?_
  refine ws ?_
  refine st_reg mixed (by kernel_rfl) hS ?_
  refine mv rfl ?_
  refine cg (sp_assign (od rfl)) ?_
  refine cg (sp_assign (odi)) ?_
  refine sn fun a w hS => ?_
  refine et ?_
  refine wp_ret ?_
  have hS0 := hS
  have hS := st_freeze 0 4 hS rfl rfl
  have hS := st_also (t := 4) (q := 10) hS0 hS rfl rfl rfl
  have hS := st_also (t := 4) (q := 123) hS0 hS rfl rfl rfl
  cases h
  exact st_ret hS (run_results2 Tryz.results23 a w) (⟨_, rfl, hS.get rfl, hS.get rfl, trivial⟩)

theorem f97_ok {fuel : Nat} {p0 : List Int} {p1 : Int} {r : Bool} (h : M.f97 fuel p0 p1 = some r) : CallOK Tryz.prog 97 [isV p0, isV p1] (isV r) := by
  unfold M.f97 at h
  refine callS_of Tryz.func97 rfl Tryz.ntmps97 rfl fun F0 w0 a hS => ?_
  refine ws ?_
  refine st_reg mixed (by kernel_rfl) hS ?_
  refine cg (sp_assign (odb)) ?_
  refine sn fun a w hS => ?_
  refine et ?_
  refine ws ?_
  refine ws ?_
  refine st_reg mixed (by kernel_rfl) hS ?_
  refine cg (sp_assign (odi)) ?_
  refine sn fun a w hS => ?_
  refine et ?_
  refine wp_block ?_
  obtain ⟨o_2, e_3, hr_4⟩ := bind_some h
  refine c_loop (fun K a w => ∃ s_1 : Int, loopM _ K s_1 = some o_2 ∧ St 18 F0 [] [(0, isV (α := List Int) p0), (1, isV (α := Int) p1), (5, isV (α := Int) s_1)] w0 a w) ?_ ?_ ⟨_, e_3, hS.weak ⟨od rfl, od rfl, od rfl, trivial⟩⟩
  · rintro a w ⟨_, hk, _⟩; cases hk
  rintro K a w ⟨s_1, hF_2, hS⟩
  obtain ⟨o, h, hN_2, hL_2⟩ := loop_more hF_2
  refine ws ?_
  refine ws ?_
  refine st_reg mixed (by kernel_rfl) hS ?_
  refine mv rfl ?_
  refine mv rfl ?_
  refine cg (sp_len Tryz.underlying26 (od rfl)) ?_
  refine cg (sp_lss (od rfl) (od rfl)) ?_
  refine sn fun a w hS => ?_
  refine et ?_
  refine st_cond hS rfl (fun hb => ?_) (fun hb => ?_)
  · have h := ite_t hb h
    refine wp_skip ?_
    refine et ?_
    refine ws ?_
    refine wp_block ?_
    refine ws ?_
    obtain ⟨v_5, e_6, h⟩ := bind_some h
    refine st_reg mixed (by kernel_rfl) hS ?_
    refine mv rfl ?_
    refine mv rfl ?_
    refine cg (sp_indexAddr sl26 (od rfl) (od rfl) e_6) ?_
    refine cg (sp_load ty3 (od rfl)) ?_
    refine mv rfl ?_
    refine cg (sp_eql (od rfl) (od rfl)) ?_
    refine sn fun a w hS => ?_
    refine et ?_
    refine st_cond hS rfl (fun hb => ?_) (fun hb => ?_)
    · have h := ite_t hb h
      refine ws ?_
      refine st_reg mixed (by kernel_rfl) hS ?_
      refine cg (sp_assign (odb)) ?_
      refine sn fun a w hS => ?_
      refine et ?_
      refine wp_ret ?_
      refine exit_blockR ?_
      refine exit_thenR ?_
      cases h
      obtain rfl := hL_2 _ rfl
      have h := (sum_inr hr_4)
      refine exit_thenR ?_
      refine exit_blockR ?_
      refine exit_thenR ?_
      cases h
      exact st_ret hS (run_results1 Tryz.results97 a w) (hS.get rfl)
    have h := ite_f hb h
    refine wp_skip ?_
    refine exit_block ?_
    refine et ?_
    refine st_reg mixed (by kernel_rfl) hS ?_
    refine mv rfl ?_
    refine cg (sp_add (od rfl) (odi)) ?_
    refine cg (sp_assign (od rfl)) ?_
    refine sn fun a w hS => ?_
    cases h
    exact ⟨_, hN_2 _ rfl, hS.weak ⟨od rfl, od rfl, od rfl, trivial⟩⟩
  have h := ite_f hb h
  refine wp_exit ?_
  refine exit_thenE ?_
  cases h
  obtain rfl := hL_2 _ rfl
  have h := (sum_inl hr_4)
  refine exit_thenE ?_
  refine exit_here ?_
  refine et ?_
  refine ws ?_
  refine st_reg mixed (by kernel_rfl) hS ?_
  refine cg (sp_assign (odb)) ?_
  refine sn fun a w hS => ?_
  refine et ?_
  refine wp_ret ?_
  cases h
  exact st_ret hS (run_results1 Tryz.results97 a w) (hS.get rfl)

theorem f26_ok {fuel : Nat} {p0 : S_api_Roster} {p1 : Int} {p2 : List Int} {r : Int} (h : M.f26 fuel p0 p1 p2 = some r) : CallOK Tryz.prog 26 [isV p0, isV p1, isV p2] (isV r) := by
  unfold M.f26 at h
  refine callS_of Tryz.func26 rfl Tryz.ntmps26 rfl fun F0 w0 a hS => ?_
  refine ws ?_
  refine st_reg mixed (by kernel_rfl) hS ?_
  refine cg (sp_box (od rfl)) ?_
  refine cg (sp_assign (odi)) ?_
  refine sn fun a w hS => ?_
  refine et ?_
  refine ws ?_
  obtain ⟨v_1, e_2, h⟩ := bind_some h
  refine st_reg mixed (by kernel_rfl) hS ?_
  refine cg (sp_load ty25 (od rfl)) ?_
  refine mv rfl ?_
  refine cg (sp_call en75 (f75_ok e_2) ⟨od rfl, od rfl, trivial⟩) ?_
  refine cg (sp_assign (od rfl)) ?_
  refine sn fun a w hS => ?_
  refine et ?_
  refine ws ?_
  refine ws ?_
  refine st_reg mixed (by kernel_rfl) hS ?_
  refine mv rfl ?_
  refine cg (sp_neq (od rfl) (odi)) ?_
  refine sn fun a w hS => ?_
  refine et ?_
  refine st_cond hS rfl (fun hb => ?_) (fun hb => ?_)
  · have h := ite_t hb h
    refine ws ?_
    refine st_reg mixed (by kernel_rfl) hS ?_
    refine mv rfl ?_
    refine cg (sp_assign (od rfl)) ?_
    refine sn fun a w hS => ?_
    refine et ?_
    refine wp_ret ?_
    refine exit_thenR ?_
    cases h
    exact st_ret hS (run_results1 Tryz.results26 a w) (hS.get rfl)
  have h := ite_f hb h
  refine wp_skip ?_
  refine et ?_
  refine ws ?_
  refine ws ?_
  refine st_reg mixed (by kernel_rfl) hS ?_
  refine cg (sp_assign (odi)) ?_
  refine sn fun a w hS => ?_
  refine et ?_
  refine wp_block ?_
  obtain ⟨o_4, e_5, hr_6⟩ := bind_some h
  refine c_loop (fun K a w => ∃ s_3 : Int, loopM _ K s_3 = some o_4 ∧ St 90 F0 [] [(1, isV (α := Int) p1), (2, isV (α := List Int) p2), (3, isA (α := S_api_Roster) p0), (8, isV (α := Int) s_3)] w0 a w) ?_ ?_ ⟨_, e_5, hS.weak ⟨od rfl, od rfl, od rfl, od rfl, trivial⟩⟩
  · rintro a w ⟨_, hk, _⟩; cases hk
  rintro K a w ⟨s_3, hF_4, hS⟩
  obtain ⟨o, h, hN_4, hL_4⟩ := loop_more hF_4
  refine ws ?_
  refine ws ?_
  refine st_reg mixed (by kernel_rfl) hS ?_
  refine mv rfl ?_
  refine mv rfl ?_
  refine cg (sp_len Tryz.underlying26 (od rfl)) ?_
  refine cg (sp_lss (od rfl) (od rfl)) ?_
  refine sn fun a w hS => ?_
  refine et ?_
  refine st_cond hS rfl (fun hb => ?_) (fun hb => ?_)
  · have h := ite_t hb h
    refine wp_skip ?_
    refine et ?_
    refine ws ?_
    refine wp_block ?_
    refine ws ?_
    obtain ⟨v_7, e_8, h⟩ := bind_some h
    obtain ⟨v_9, e_10, h⟩ := bind_some h
    refine st_reg mixed (by kernel_rfl) hS ?_
    refine mv rfl ?_
    refine mv rfl ?_
    refine cg (sp_sub (od rfl) (odi)) ?_
    refine cg (sp_indexAddr sl26 (od rfl) (od rfl) e_8) ?_
    refine cg (sp_load ty3 (od rfl)) ?_
    refine mv rfl ?_
    refine mv rfl ?_
    refine cg (sp_indexAddr sl26 (od rfl) (od rfl) e_10) ?_
    refine cg (sp_load ty3 (od rfl)) ?_
    refine cg (sp_geq (od rfl) (od rfl)) ?_
    refine sn fun a w hS => ?_
    refine et ?_
    refine st_cond hS rfl (fun hb => ?_) (fun hb => ?_)
    · have h := ite_t hb h
      refine ws ?_
      refine st_reg mixed (by kernel_rfl) hS ?_
      refine cg (sp_assign (odi)) ?_
      refine sn fun a w hS => ?_
      refine et ?_
      refine wp_ret ?_
      refine exit_blockR ?_
      refine exit_thenR ?_
      cases h
      obtain rfl := hL_4 _ rfl
      have h := (sum_inr hr_6)
      refine exit_thenR ?_
      refine exit_blockR ?_
      refine exit_thenR ?_
      cases h
      exact st_ret hS (run_results1 Tryz.results26 a w) (hS.get rfl)
    have h := ite_f hb h
    refine wp_skip ?_
    refine exit_block ?_
    refine et ?_
    refine st_reg mixed (by kernel_rfl) hS ?_
    refine mv rfl ?_
    refine cg (sp_add (od rfl) (odi)) ?_
    refine cg (sp_assign (od rfl)) ?_
    refine sn fun a w hS => ?_
    cases h
    exact ⟨_, hN_4 _ rfl, hS.weak ⟨od rfl, od rfl, od rfl, od rfl, trivial⟩⟩
  have h := ite_f hb h
  refine wp_exit ?_
  refine exit_thenE ?_
  cases h
  obtain rfl := hL_4 _ rfl
  have h := (sum_inl hr_6)
  refine exit_thenE ?_
  refine exit_here ?_
  refine et ?_
  refine ws ?_
  refine ws ?_
  obtain ⟨v_11, e_12, h⟩ := bind_some h
  refine st_reg mixed (by kernel_rfl) hS ?_
  refine cg (sp_load ty25 (od rfl)) ?_
  refine mv rfl ?_
  refine mv rfl ?_
  refine cg (sp_call en96 (f96_ok e_12) ⟨od rfl, od rfl, od rfl, trivial⟩) ?_
  refine cg (sp_not (od rfl)) ?_
  refine sn fun a w hS => ?_
  refine et ?_
  refine st_cond hS rfl (fun hb => ?_) (fun hb => ?_)
  · have h := ite_t hb h
    refine ws ?_
    refine st_reg mixed (by kernel_rfl) hS ?_
    refine cg (sp_assign (odi)) ?_
    refine sn fun a w hS => ?_
    refine et ?_
    refine wp_ret ?_
    refine exit_thenR ?_
    cases h
    exact st_ret hS (run_results1 Tryz.results26 a w) (hS.get rfl)
  have h := ite_f hb h
  refine wp_skip ?_
  refine et ?_
  refine ws ?_
  refine ws ?_
  refine st_reg mixed (by kernel_rfl) hS ?_
  refine cg (sp_assign (odi)) ?_
  refine sn fun a w hS => ?_
  refine et ?_
  refine wp_block ?_
  obtain ⟨o_14, e_15, hr_16⟩ := bind_some h
  refine c_loop (fun K a w => ∃ s_13 : Int, loopM _ K s_13 = some o_14 ∧ St 90 F0 [] [(1, isV (α := Int) p1), (2, isV (α := List Int) p2), (3, isA (α := S_api_Roster) p0), (9, isV (α := Int) s_13)] w0 a w) ?_ ?_ ⟨_, e_15, hS.weak ⟨od rfl, od rfl, od rfl, od rfl, trivial⟩⟩
  · rintro a w ⟨_, hk, _⟩; cases hk
  rintro K a w ⟨s_13, hF_14, hS⟩
  obtain ⟨o, h, hN_14, hL_14⟩ := loop_more hF_14
  refine ws ?_
  refine ws ?_
  refine st_reg mixed (by kernel_rfl) hS ?_
  refine mv rfl ?_
  refine cg (sp_fieldAddr fd25_4 (od rfl)) ?_
  refine cg (sp_load ty23 (od rfl)) ?_
  refine cg (sp_len Tryz.underlying23 (od rfl)) ?_
  refine cg (sp_lss (od rfl) (od rfl)) ?_
  refine sn fun a w hS => ?_
  refine et ?_
  refine st_cond hS rfl (fun hb => ?_) (fun hb => ?_)
  · have h := ite_t hb h
    refine wp_skip ?_
    refine et ?_
    refine ws ?_
    refine wp_block ?_
    refine ws ?_
    refine ws ?_
    obtain ⟨v_17, e_18, h⟩ := bind_some h
    refine st_reg mixed (by kernel_rfl) hS ?_
    refine cg (sp_fieldAddr fd25_4 (od rfl)) ?_
    refine cg (sp_load ty23 (od rfl)) ?_
    refine mv rfl ?_
    refine cg (sp_indexAddr sl23 (od rfl) (od rfl) e_18) ?_
    refine cg (sp_fieldAddr fd45_0 (od rfl)) ?_
    refine cg (sp_load ty3 (od rfl)) ?_
    refine mv rfl ?_
    refine cg (sp_neq (od rfl) (od rfl)) ?_
    refine sn fun a w hS => ?_
    refine et ?_
    refine st_cond hS rfl (fun hb => ?_) (fun hb => ?_)
    · have h := ite_t hb h
      refine wp_exit ?_
      refine exit_thenE ?_
      refine exit_here ?_
      refine et ?_
      refine st_reg mixed (by kernel_rfl) hS ?_
      refine mv rfl ?_
      refine cg (sp_add (od rfl) (odi)) ?_
      refine cg (sp_assign (od rfl)) ?_
      refine sn fun a w hS => ?_
      cases h
      exact ⟨_, hN_14 _ rfl, hS.weak ⟨od rfl, od rfl, od rfl, od rfl, trivial⟩⟩
    have h := ite_f hb h
    refine wp_skip ?_
    refine et ?_
    refine ws ?_
    obtain ⟨v_19, e_20, h⟩ := bind_some h
    refine st_reg mixed (by kernel_rfl) hS ?_
    refine cg (sp_load ty25 (od rfl)) ?_
    refine mv rfl ?_
    refine cg (sp_call en83 (f83_ok e_20) ⟨od rfl, od rfl, trivial⟩) ?_
    refine cg (sp_assign (od rfl)) ?_
    refine sn fun a w hS => ?_
    refine et ?_
    refine ws ?_
    refine ws ?_
    refine st_reg mixed (by kernel_rfl) hS ?_
    refine cg (sp_assign (odi)) ?_
    refine sn fun a w hS => ?_
    refine et ?_
    refine wp_block ?_
    obtain ⟨o_22, e_23, hr_24⟩ := bind_some h
    refine c_loop (fun K a w => ∃ s_21 : Bool × Int, loopM _ K s_21 = some o_22 ∧ St 90 F0 [] [(1, isV (α := Int) p1), (2, isV (α := List Int) p2), (3, isA (α := S_api_Roster) p0), (9, isV (α := Int) s_13), (10, isV (α := Bool) s_21.1), (11, isV (α := Int) s_21.2)] w0 a w) ?_ ?_ ⟨_, e_23, hS.weak ⟨od rfl, od rfl, od rfl, od rfl, od rfl, od rfl, trivial⟩⟩
    · rintro a w ⟨_, hk, _⟩; cases hk
    rintro K a w ⟨s_21, hF_22, hS⟩
    obtain ⟨o, h, hN_22, hL_22⟩ := loop_more hF_22
    refine ws ?_
    refine ws ?_
    refine st_reg mixed (by kernel_rfl) hS ?_
    refine mv rfl ?_
    refine mv rfl ?_
    refine cg (sp_len Tryz.underlying26 (od rfl)) ?_
    refine cg (sp_lss (od rfl) (od rfl)) ?_
    refine sn fun a w hS => ?_
    refine et ?_
    refine st_cond hS rfl (fun hb => ?_) (fun hb => ?_)
    · have h := ite_t hb h
      refine wp_skip ?_
      refine et ?_
      refine ws ?_
      refine wp_block ?_
      obtain ⟨v_25, e_26, h⟩ := bind_some h
      obtain ⟨v_27, e_28, h⟩ := bind_some h
      refine st_reg mixed (by kernel_rfl) hS ?_
      refine mv rfl ?_
      refine mv rfl ?_
      refine sc (sgF rfl fun hG => sp_load ty25 (od rfl)) ?_
      refine sc (sgF rfl fun hG => sp_move (od rfl)) ?_
      refine sc (sgF rfl fun hG => sp_move (od rfl)) ?_
      refine sc (sgF rfl fun hG => sp_indexAddr sl26 (odw rfl hG) (odw rfl hG) (guard_some e_26 hG)) ?_
      refine sc (sgF rfl fun hG => sp_load ty3 (odw rfl hG)) ?_
      refine sc (sgF rfl fun hG => sp_move (od rfl)) ?_
      refine sc (sgF rfl fun hG => sp_call en84 (f84_ok (guard_some e_28 hG)) ⟨odw rfl hG, odw rfl hG, odw rfl hG, trivial⟩) ?_
      refine cg (sp_pickOr (od rfl) fun hg => odw rfl (not_t hg)) ?_
      refine cg (sp_assign (od rfl)) ?_
      refine sn fun a w hS => ?_
      refine exit_block ?_
      refine et ?_
      refine st_reg mixed (by kernel_rfl) hS ?_
      refine mv rfl ?_
      refine cg (sp_add (od rfl) (odi)) ?_
      refine cg (sp_assign (od rfl)) ?_
      refine sn fun a w hS => ?_
      cases h
      exact ⟨_, hN_22 _ rfl, hS.weak ⟨od rfl, od rfl, od rfl, od rfl, od rfl, od rfl, trivial⟩⟩
    have h := ite_f hb h
    refine wp_exit ?_
    refine exit_thenE ?_
    cases h
    obtain rfl := hL_22 _ rfl
    have h := hr_24
    refine exit_thenE ?_
    refine exit_here ?_
    refine et ?_
    refine ws ?_
    obtain ⟨v_29, e_30, h⟩ := bind_some h
    obtain ⟨v_31, e_32, h⟩ := bind_some h
    obtain ⟨v_33, e_34, h⟩ := bind_some h
    refine st_reg mixed (by kernel_rfl) hS ?_
    refine mv rfl ?_
    refine mv rfl ?_
    refine sc (sgT rfl fun hG => sp_move (od rfl)) ?_
    refine sc (sgT rfl fun hG => sp_move (od rfl)) ?_
    refine sc (sgT rfl fun hG => sp_call en97 (f97_ok (guard_some e_30 hG)) ⟨odw rfl hG, odw rfl hG, trivial⟩) ?_
    refine sc (sgT rfl fun hG => sp_not (odw rfl hG)) ?_
    refine cg (sp_pickAnd (od rfl) fun hg => odw rfl hg) ?_
    refine mv rfl ?_
    refine sc (sgF rfl fun hG => sp_move (od rfl)) ?_
    refine sc (sgF rfl fun hG => sp_move (od rfl)) ?_
    refine sc (sgF rfl fun hG => sp_call en97 (f97_ok (guard_some e_32 hG)) ⟨odw rfl hG, odw rfl hG, trivial⟩) ?_
    refine sc (sgF rfl fun hG => sp_move (odw rfl hG)) ?_
    refine sc (sgwT rfl fun hG => sp_load ty25 (od rfl)) ?_
    refine sc (sgwT rfl fun hG => sp_move (od rfl)) ?_
    refine sc (sgwT rfl fun hG => sp_call en98 (f98_ok (guard_some e_34 hG)) ⟨odw rfl hG, odw rfl hG, trivial⟩) ?_
    refine sc (sgF rfl fun hG => sp_pickAnd (odw rfl hG) fun hg => odw rfl (and_mk hG hg)) ?_
    refine cg (sp_pickOr (od rfl) fun hg => odw rfl (not_t hg)) ?_
    refine sn fun a w hS => ?_
    refine et ?_
    refine st_cond hS rfl (fun hb => ?_) (fun hb => ?_)
    · have h := ite_t hb h
      refine ws ?_
      refine st_reg mixed (by kernel_rfl) hS ?_
      refine cg (sp_assign (odi)) ?_
      refine sn fun a w hS => ?_
      refine et ?_
      refine wp_ret ?_
      refine exit_blockR ?_
      refine exit_thenR ?_
      cases h
      obtain rfl := hL_14 _ rfl
      have h := (sum_inr hr_16)
      refine exit_thenR ?_
      refine exit_blockR ?_
      refine exit_thenR ?_
      cases h
      exact st_ret hS (run_results1 Tryz.results26 a w) (hS.get rfl)
    have h := ite_f hb h
    refine wp_skip ?_
    refine exit_block ?_
    refine et ?_
    refine st_reg mixed (by kernel_rfl) hS ?_
    refine mv rfl ?_
    refine cg (sp_add (od rfl) (odi)) ?_
    refine cg (sp_assign (od rfl)) ?_
    refine sn fun a w hS => ?_
    cases h
    exact ⟨_, hN_14 _ rfl, hS.weak ⟨od rfl, od rfl, od rfl, od rfl, trivial⟩⟩
  have h := ite_f hb h
  refine wp_exit ?_
  refine exit_thenE ?_
  cases h
  obtain rfl := hL_14 _ rfl
  have h := (sum_inl hr_16)
  refine exit_thenE ?_
  refine exit_here ?_
  refine et ?_
  refine ws ?_
  refine st_reg mixed (by kernel_rfl) hS ?_
  refine cg (sp_assign (odi)) ?_
  refine sn fun a w hS => ?_
  refine et ?_
  refine wp_ret ?_
  cases h
  exact st_ret hS (run_results1 Tryz.results26 a w) (hS.get rfl)

theorem f28_ok {fuel : Nat} {p0 : S_api_Roster} {p1 : Int} {p2 : Int} {p3 : List Int} {r : Int} (h : M.f28 fuel p0 p1 p2 p3 = some r) : CallOK Tryz.prog 28 [isV p0, isV p1, isV p2, isV p3] (isV r) := by
  unfold M.f28 at h
  refine callS_of Tryz.func28 rfl Tryz.ntmps28 rfl fun F0 w0 a hS => ?_
  refine ws ?_
  refine st_reg mixed (by kernel_rfl) hS ?_
  refine cg (sp_box (od rfl)) ?_
  refine cg (sp_assign (odi)) ?_
  refine sn fun a w hS => ?_
  refine et ?_
  refine ws ?_
  obtain ⟨v_1, e_2, h⟩ := bind_some h
  refine st_reg mixed (by kernel_rfl) hS ?_
  refine cg (sp_load ty25 (od rfl)) ?_
  refine mv rfl ?_
  refine cg (sp_call en75 (f75_ok e_2) ⟨od rfl, od rfl, trivial⟩) ?_
  refine cg (sp_assign (od rfl)) ?_
  refine sn fun a w hS => ?_
  refine et ?_
  refine ws ?_
  refine ws ?_
  refine st_reg mixed (by kernel_rfl) hS ?_
  refine mv rfl ?_
  refine cg (sp_neq (od rfl) (odi)) ?_
  refine sn fun a w hS => ?_
  refine et ?_
  refine st_cond hS rfl (fun hb => ?_) (fun hb => ?_)
  · have h := ite_t hb h
    refine ws ?_
    refine st_reg mixed (by kernel_rfl) hS ?_
    refine mv rfl ?_
    refine cg (sp_assign (od rfl)) ?_
    refine sn fun a w hS => ?_
    refine et ?_
    refine wp_ret ?_
    refine exit_thenR ?_
    cases h
    exact st_ret hS (run_results1 Tryz.results28 a w) (hS.get rfl)
  have h := ite_f hb h
  refine wp_skip ?_
  refine et ?_
  refine ws ?_
  refine ws ?_
  refine st_reg mixed (by kernel_rfl) hS ?_
  refine mv rfl ?_
  refine cg (sp_lss (od rfl) (odi)) ?_
  refine mv rfl ?_
  refine sc (sgF rfl fun hG => sp_move (od rfl)) ?_
  refine sc (sgF rfl fun hG => sp_gtr (odw rfl hG) (odi)) ?_
  refine cg (sp_pickOr (od rfl) fun hg => odw rfl (not_t hg)) ?_
  refine mv rfl ?_
  refine sc (sgF rfl fun hG => sp_move (od rfl)) ?_
  refine sc (sgF rfl fun hG => sp_len Tryz.underlying26 (odw rfl hG)) ?_
  refine sc (sgF rfl fun hG => sp_fieldAddr fd25_4 (od rfl)) ?_
  refine sc (sgF rfl fun hG => sp_load ty23 (odw rfl hG)) ?_
  refine sc (sgF rfl fun hG => sp_len Tryz.underlying23 (odw rfl hG)) ?_
  refine sc (sgF rfl fun hG => sp_neq (odw rfl hG) (odw rfl hG)) ?_
  refine cg (sp_pickOr (od rfl) fun hg => odw rfl (not_t hg)) ?_
  refine sn fun a w hS => ?_
  refine et ?_
  refine st_cond hS rfl (fun hb => ?_) (fun hb => ?_)
  · have h := ite_t hb h
    refine ws ?_
    refine st_reg mixed (by kernel_rfl) hS ?_
    refine cg (sp_assign (odi)) ?_
    refine sn fun a w hS => ?_
    refine et ?_
    refine wp_ret ?_
    refine exit_thenR ?_
    cases h
    exact st_ret hS (run_results1 Tryz.results28 a w) (hS.get rfl)
  have h := ite_f hb h
  refine wp_skip ?_
  refine et ?_
  refine ws ?_
  refine ws ?_
  refine st_reg mixed (by kernel_rfl) hS ?_
  refine cg (sp_assign (odi)) ?_
  refine sn fun a w hS => ?_
  refine et ?_
  refine wp_block ?_
  obtain ⟨o_4, e_5, hr_6⟩ := bind_some h
  refine c_loop (fun K a w => ∃ s_3 : Int, loopM _ K s_3 = some o_4 ∧ St 122 F0 [] [(1, isV (α := Int) p1), (2, isV (α := Int) p2), (3, isV (α := List Int) p3), (4, isA (α := S_api_Roster) p0), (10, isV (α := Int) s_3)] w0 a w) ?_ ?_ ⟨_, e_5, hS.weak ⟨od rfl, od rfl, od rfl, od rfl, od rfl, trivial⟩⟩
  · rintro a w ⟨_, hk, _⟩; cases hk
  rintro K a w ⟨s_3, hF_4, hS⟩
  obtain ⟨o, h, hN_4, hL_4⟩ := loop_more hF_4
  refine ws ?_
  refine ws ?_
  refine st_reg mixed (by kernel_rfl) hS ?_
  refine mv rfl ?_
  refine mv rfl ?_
  refine cg (sp_len Tryz.underlying26 (od rfl)) ?_
  refine cg (sp_lss (od rfl) (od rfl)) ?_
  refine sn fun a w hS => ?_
  refine et ?_
  refine st_cond hS rfl (fun hb => ?_) (fun hb => ?_)
  · have h := ite_t hb h
    refine wp_skip ?_
    refine et ?_
    refine ws ?_
    refine wp_block ?_
    refine ws ?_
    obtain ⟨v_7, e_8, h⟩ := bind_some h
    obtain ⟨v_9, e_10, h⟩ := bind_some h
    refine st_reg mixed (by kernel_rfl) hS ?_
    refine mv rfl ?_
    refine mv rfl ?_
    refine cg (sp_indexAddr sl26 (od rfl) (od rfl) e_8) ?_
    refine cg (sp_load ty3 (od rfl)) ?_
    refine cg (sp_lss (od rfl) (odi)) ?_
    refine mv rfl ?_
    refine sc (sgF rfl fun hG => sp_move (od rfl)) ?_
    refine sc (sgF rfl fun hG => sp_move (od rfl)) ?_
    refine sc (sgF rfl fun hG => sp_indexAddr sl26 (odw rfl hG) (odw rfl hG) (guard_some e_10 hG)) ?_
    refine sc (sgF rfl fun hG => sp_load ty3 (odw rfl hG)) ?_
    refine sc (sgF rfl fun hG => sp_gtr (odw rfl hG) (odi)) ?_
    refine cg (sp_pickOr (od rfl) fun hg => odw rfl (not_t hg)) ?_
    refine sn fun a w hS => ?_
    refine et ?_
    refine st_cond hS rfl (fun hb => ?_) (fun hb => ?_)
    · have h := ite_t hb h
      refine ws ?_
      refine st_reg mixed (by kernel_rfl) hS ?_
      refine cg (sp_assign (odi)) ?_
      refine sn fun a w hS => ?_
      refine et ?_
      refine wp_ret ?_
      refine exit_blockR ?_
      refine exit_thenR ?_
      cases h
      obtain rfl := hL_4 _ rfl
      have h := (sum_inr hr_6)
      refine exit_thenR ?_
      refine exit_blockR ?_
      refine exit_thenR ?_
      cases h
      exact st_ret hS (run_results1 Tryz.results28 a w) (hS.get rfl)
    have h := ite_f hb h
    refine wp_skip ?_
    refine exit_block ?_
    refine et ?_
    refine st_reg mixed (by kernel_rfl) hS ?_
    refine mv rfl ?_
    refine cg (sp_add (od rfl) (odi)) ?_
    refine cg (sp_assign (od rfl)) ?_
    refine sn fun a w hS => ?_
    cases h
    exact ⟨_, hN_4 _ rfl, hS.weak ⟨od rfl, od rfl, od rfl, od rfl, od rfl, trivial⟩⟩
  have h := ite_f hb h
  refine wp_exit ?_
  refine exit_thenE ?_
  cases h
  obtain rfl := hL_4 _ rfl
  have h := (sum_inl hr_6)
  refine exit_thenE ?_
  refine exit_here ?_
  refine et ?_
  refine ws ?_
  refine ws ?_
  refine st_reg mixed (by kernel_rfl) hS ?_
  refine cg (sp_assign (odi)) ?_
  refine sn fun a w hS => ?_
  refine et ?_
  refine wp_block ?_
  obtain ⟨o_12, e_13, hr_14⟩ := bind_some h
  refine c_loop (fun K a w => ∃ s_11 : Int, loopM _ K s_11 = some o_12 ∧ St 122 F0 [] [(1, isV (α := Int) p1), (2, isV (α := Int) p2), (3, isV (α := List Int) p3), (4, isA (α := S_api_Roster) p0), (11, isV (α := Int) s_11)] w0 a w) ?_ ?_ ⟨_, e_13, hS.weak ⟨od rfl, od rfl, od rfl, od rfl, od rfl, trivial⟩⟩
  · rintro a w ⟨_, hk, _⟩; cases hk
  rintro K a w ⟨s_11, hF_12, hS⟩
  obtain ⟨o, h, hN_12, hL_12⟩ := loop_more hF_12
  refine ws ?_
  refine ws ?_
  refine st_reg mixed (by kernel_rfl) hS ?_
  refine mv rfl ?_
  refine mv rfl ?_
  refine cg (sp_len Tryz.underlying26 (od rfl)) ?_
  refine cg (sp_lss (od rfl) (od rfl)) ?_
  refine sn fun a w hS => ?_
  refine et ?_
  refine st_cond hS rfl (fun hb => ?_) (fun hb => ?_)
  · have h := ite_t hb h
    refine wp_skip ?_
    refine et ?_
    refine ws ?_
    refine wp_block ?_
    refine ws ?_
    refine ws ?_
    obtain ⟨v_15, e_16, h⟩ := bind_some h
    refine st_reg mixed (by kernel_rfl) hS ?_
    refine cg (sp_fieldAddr fd25_4 (od rfl)) ?_
    refine cg (sp_load ty23 (od rfl)) ?_
    refine mv rfl ?_
    refine cg (sp_indexAddr sl23 (od rfl) (od rfl) e_16) ?_
    refine cg (sp_fieldAddr fd45_0 (od rfl)) ?_
    refine cg (sp_load ty3 (od rfl)) ?_
    refine mv rfl ?_
    refine cg (sp_neq (od rfl) (od rfl)) ?_
    refine sn fun a w hS => ?_
    refine et ?_
    refine st_cond hS rfl (fun hb => ?_) (fun hb => ?_)
    · have h := ite_t hb h
      refine wp_exit ?_
      refine exit_thenE ?_
      refine exit_here ?_
      refine et ?_
      refine st_reg mixed (by kernel_rfl) hS ?_
      refine mv rfl ?_
      refine cg (sp_add (od rfl) (odi)) ?_
      refine cg (sp_assign (od rfl)) ?_
      refine sn fun a w hS => ?_
      cases h
      exact ⟨_, hN_12 _ rfl, hS.weak ⟨od rfl, od rfl, od rfl, od rfl, od rfl, trivial⟩⟩
    have h := ite_f hb h
    refine wp_skip ?_
    refine et ?_
    refine ws ?_
    refine ws ?_
    obtain ⟨v_17, e_18, h⟩ := bind_some h
    obtain ⟨v_19, e_20, h⟩ := bind_some h
    obtain ⟨v_21, e_22, h⟩ := bind_some h
    obtain ⟨v_23, e_24, h⟩ := bind_some h
    obtain ⟨v_25, e_26, h⟩ := bind_some h
    refine st_reg mixed (by kernel_rfl) hS ?_
    refine cg (sp_load ty25 (od rfl)) ?_
    refine mv rfl ?_
    refine cg (sp_call en83 (f83_ok e_18) ⟨od rfl, od rfl, trivial⟩) ?_
    refine mv rfl ?_
    refine sc (sgT rfl fun hG => sp_move (od rfl)) ?_
    refine sc (sgT rfl fun hG => sp_move (od rfl)) ?_
    refine sc (sgT rfl fun hG => sp_indexAddr sl26 (odw rfl hG) (odw rfl hG) (guard_some e_20 hG)) ?_
    refine sc (sgT rfl fun hG => sp_load ty3 (odw rfl hG)) ?_
    refine sc (sgT rfl fun hG => sp_fieldAddr fd25_4 (od rfl)) ?_
    refine sc (sgT rfl fun hG => sp_load ty23 (odw rfl hG)) ?_
    refine sc (sgT rfl fun hG => sp_move (od rfl)) ?_
    refine sc (sgT rfl fun hG => sp_indexAddr sl23 (odw rfl hG) (odw rfl hG) (guard_some e_22 hG)) ?_
    refine sc (sgT rfl fun hG => sp_fieldAddr fd45_5 (odw rfl hG)) ?_
    refine sc (sgT rfl fun hG => sp_load ty3 (odw rfl hG)) ?_
    refine sc (sgT rfl fun hG => sp_gtr (odw rfl hG) (odw rfl hG)) ?_
    refine cg (sp_pickAnd (od rfl) fun hg => odw rfl hg) ?_
    refine mv rfl ?_
    refine sc (sgF rfl fun hG => sp_load ty25 (od rfl)) ?_
    refine sc (sgF rfl fun hG => sp_move (od rfl)) ?_
    refine sc (sgF rfl fun hG => sp_call en98 (f98_ok (guard_some e_24 hG)) ⟨odw rfl hG, odw rfl hG, trivial⟩) ?_
    refine sc (sgF rfl fun hG => sp_move (odw rfl hG)) ?_
    refine sc (sgwT rfl fun hG => sp_move (od rfl)) ?_
    refine sc (sgwT rfl fun hG => sp_move (od rfl)) ?_
    refine sc (sgwT rfl fun hG => sp_indexAddr sl26 (odw rfl hG) (odw rfl hG) (guard_some e_26 hG)) ?_
    refine sc (sgwT rfl fun hG => sp_load ty3 (odw rfl hG)) ?_
    refine sc (sgwT rfl fun hG => sp_move (od rfl)) ?_
    refine sc (sgwT rfl fun hG => sp_lss (odw rfl hG) (odw rfl hG)) ?_
    refine sc (sgF rfl fun hG => sp_pickAnd (odw rfl hG) fun hg => odw rfl (and_mk hG hg)) ?_
    refine cg (sp_pickOr (od rfl) fun hg => odw rfl (not_t hg)) ?_
    refine sn fun a w hS => ?_
    refine et ?_
    refine st_cond hS rfl (fun hb => ?_) (fun hb => ?_)
    · have h := ite_t hb h
      refine ws ?_
      refine st_reg mixed (by kernel_rfl) hS ?_
      refine cg (sp_assign (odi)) ?_
      refine sn fun a w hS => ?_
      refine et ?_
      refine wp_ret ?_
      refine exit_thenR ?_
      refine exit_blockR ?_
      refine exit_thenR ?_
      cases h
      obtain rfl := hL_12 _ rfl
      have h := (sum_inr hr_14)
      refine exit_thenR ?_
      refine exit_blockR ?_
      refine exit_thenR ?_
      cases h
      exact st_ret hS (run_results1 Tryz.results28 a w) (hS.get rfl)
    have h := ite_f hb h
    refine wp_skip ?_
    refine et ?_
    refine ws ?_
    refine st_reg mixed (by kernel_rfl) hS ?_
    refine cg (sp_assign (odi)) ?_
    refine sn fun a w hS => ?_
    refine et ?_
    refine wp_block ?_
    obtain ⟨o_28, e_29, hr_30⟩ := bind_some h
    refine c_loop (fun K a w => ∃ s_27 : Int, loopM _ K s_27 = some o_28 ∧ St 122 F0 [] [(1, isV (α := Int) p1), (2, isV (α := Int) p2), (3, isV (α := List Int) p3), (4, isA (α := S_api_Roster) p0), (11, isV (α := Int) s_11), (12, isV (α := Int) s_27)] w0 a w) ?_ ?_ ⟨_, e_29, hS.weak ⟨od rfl, od rfl, od rfl, od rfl, od rfl, od rfl, trivial⟩⟩
    · rintro a w ⟨_, hk, _⟩; cases hk
    rintro K a w ⟨s_27, hF_28, hS⟩
    obtain ⟨o, h, hN_28, hL_28⟩ := loop_more hF_28
    refine ws ?_
    refine ws ?_
    refine st_reg mixed (by kernel_rfl) hS ?_
    refine mv rfl ?_
    refine mv rfl ?_
    refine cg (sp_len Tryz.underlying26 (od rfl)) ?_
    refine cg (sp_lss (od rfl) (od rfl)) ?_
    refine sn fun a w hS => ?_
    refine et ?_
    refine st_cond hS rfl (fun hb => ?_) (fun hb => ?_)
    · have h := ite_t hb h
      refine wp_skip ?_
      refine et ?_
      refine ws ?_
      refine wp_block ?_
      refine ws ?_
      obtain ⟨v_31, e_32, h⟩ := bind_some h
      obtain ⟨v_33, e_34, h⟩ := bind_some h
      obtain ⟨v_35, e_36, h⟩ := bind_some h
      obtain ⟨v_37, e_38, h⟩ := bind_some h
      refine st_reg mixed (by kernel_rfl) hS ?_
      refine cg (sp_load ty25 (od rfl)) ?_
      refine mv rfl ?_
      refine mv rfl ?_
      refine cg (sp_call en84 (f84_ok e_32) ⟨od rfl, od rfl, od rfl, trivial⟩) ?_
      refine mv rfl ?_
      refine sc (sgT rfl fun hG => sp_move (od rfl)) ?_
      refine sc (sgT rfl fun hG => sp_move (od rfl)) ?_
      refine sc (sgT rfl fun hG => sp_indexAddr sl26 (odw rfl hG) (odw rfl hG) (guard_some e_34 hG)) ?_
      refine sc (sgT rfl fun hG => sp_load ty3 (odw rfl hG)) ?_
      refine sc (sgT rfl fun hG => sp_move (od rfl)) ?_
      refine sc (sgT rfl fun hG => sp_move (od rfl)) ?_
      refine sc (sgT rfl fun hG => sp_indexAddr sl26 (odw rfl hG) (odw rfl hG) (guard_some e_36 hG)) ?_
      refine sc (sgT rfl fun hG => sp_load ty3 (odw rfl hG)) ?_
      refine sc (sgT rfl fun hG => sp_fieldAddr fd25_4 (od rfl)) ?_
      refine sc (sgT rfl fun hG => sp_load ty23 (odw rfl hG)) ?_
      refine sc (sgT rfl fun hG => sp_move (od rfl)) ?_
      refine sc (sgT rfl fun hG => sp_indexAddr sl23 (odw rfl hG) (odw rfl hG) (guard_some e_38 hG)) ?_
      refine sc (sgT rfl fun hG => sp_fieldAddr fd45_5 (odw rfl hG)) ?_
      refine sc (sgT rfl fun hG => sp_load ty3 (odw rfl hG)) ?_
      refine sc (sgT rfl fun hG => sp_add (odw rfl hG) (odw rfl hG)) ?_
      refine sc (sgT rfl fun hG => sp_gtr (odw rfl hG) (odw rfl hG)) ?_
      refine cg (sp_pickAnd (od rfl) fun hg => odw rfl hg) ?_
      refine sn fun a w hS => ?_
      refine et ?_
      refine st_cond hS rfl (fun hb => ?_) (fun hb => ?_)
      · have h := ite_t hb h
        refine ws ?_
        refine st_reg mixed (by kernel_rfl) hS ?_
        refine cg (sp_assign (odi)) ?_
        refine sn fun a w hS => ?_
        refine et ?_
        refine wp_ret ?_
        refine exit_blockR ?_
        refine exit_thenR ?_
        cases h
        obtain rfl := hL_28 _ rfl
        have h := (sum_inr hr_30)
        refine exit_thenR ?_
        refine exit_blockR ?_
        refine exit_blockR ?_
        refine exit_thenR ?_
        cases h
        obtain rfl := hL_12 _ rfl
        have h := (sum_inr hr_14)
        refine exit_thenR ?_
        refine exit_blockR ?_
        refine exit_thenR ?_
        cases h
        exact st_ret hS (run_results1 Tryz.results28 a w) (hS.get rfl)
      have h := ite_f hb h
      refine wp_skip ?_
      refine exit_block ?_
      refine et ?_
      refine st_reg mixed (by kernel_rfl) hS ?_
      refine mv rfl ?_
      refine cg (sp_add (od rfl) (odi)) ?_
      refine cg (sp_assign (od rfl)) ?_
      refine sn fun a w hS => ?_
      cases h
      exact ⟨_, hN_28 _ rfl, hS.weak ⟨od rfl, od rfl, od rfl, od rfl, od rfl, od rfl, trivial⟩⟩
    have h := ite_f hb h
    refine wp_exit ?_
    refine exit_thenE ?_
    cases h
    obtain rfl := hL_28 _ rfl
    have h := (sum_inl hr_30)
    refine exit_thenE ?_
    refine exit_here ?_
    refine exit_block ?_
    refine et ?_
    refine st_reg mixed (by kernel_rfl) hS ?_
    refine mv rfl ?_
    refine cg (sp_add (od rfl) (odi)) ?_
    refine cg (sp_assign (od rfl)) ?_
    refine sn fun a w hS => ?_
    cases h
    exact ⟨_, hN_12 _ rfl, hS.weak ⟨od rfl, od rfl, od rfl, od rfl, od rfl, trivial⟩⟩
  have h := ite_f hb h
  refine wp_exit ?_
  refine exit_thenE ?_
  cases h
  obtain rfl := hL_12 _ rfl
  have h := (sum_inl hr_14)
  refine exit_thenE ?_
  refine exit_here ?_
  refine et ?_
  refine ws ?_
  refine st_reg mixed (by kernel_rfl) hS ?_
  refine cg (sp_assign (odi)) ?_
  refine sn fun a w hS => ?_
  refine et ?_
  refine wp_ret ?_
  cases h
  exact st_ret hS (run_results1 Tryz.results28 a w) (hS.get rfl)

theorem f3_ok {fuel : Nat} {p0 : S_api_Roster} {p1 : Int} {p2 : List Int} {p3 : Int} {p4 : List Int} {r : Bool} (h : M.f3 fuel p0 p1 p2 p3 p4 = some r) : CallT Tryz.prog 3 [isV p0, isV p1, isV p2, isV p3, isV p4] (isV r) := by
  unfold M.f3 at h
  refine callT_of Tryz.func3 rfl Tryz.ntmps3 rfl fun F0 w0 a hT hS => ?_
  refine ws ?_
  refine st_reg mixed (by kernel_rfl) hS ?_
  refine cg (sp_box (od rfl)) ?_
  refine cg (sp_assign (odb)) ?_
  refine sn fun a w hS => ?_
  refine et ?_
  refine ws ?_
  refine ws ?_
  obtain ⟨v_1, e_2, h⟩ := bind_some h
  refine l_start ?_
  refine s_callT en16 (f16_ok e_2) hT hS trivial rfl fun a w hS hM => ?_
  refine s_c hS (sg (sp_not (od rfl))) rfl fun a w hS hM => ?_
  refine l_end ?_
  refine et ?_
  refine st_cond hS rfl (fun hb => ?_) (fun hb => ?_)
  · have h := ite_t hb h
    refine ws ?_
    refine st_reg mixed (by kernel_rfl) hS ?_
    refine cg (sp_assign (odb)) ?_
    refine sn fun a w hS => ?_
    refine et ?_
    refine wp_ret ?_
    refine exit_thenR ?_
    cases h
    exact st_ret hS (run_results1 Tryz.results3 a w) (hS.get rfl)
  have h := ite_f hb h
  refine wp_skip ?_
  refine et ?_
  refine ws ?_
  refine ws ?_
  obtain ⟨v_3, e_4, h⟩ := bind_some h
  refine st_reg mixed (by kernel_rfl) hS ?_
  refine cg (sp_load ty25 (od rfl)) ?_
  refine mv rfl ?_
  refine mv rfl ?_
  refine cg (sp_buildSlice [.tmp 28, .tmp 29] ([p2, p4] : List (List Int)) sl22 ze26 rfl rfl rfl rfl ⟨od rfl, od rfl, trivial⟩) ?_
  refine cg (sp_call en17 (f17_ok e_4) ⟨od rfl, od rfl, trivial⟩) ?_
  refine cg (sp_not (od rfl)) ?_
  refine sn fun a w hS => ?_
  refine et ?_
  refine st_cond hS rfl (fun hb => ?_) (fun hb => ?_)
  · have h := ite_t hb h
    refine ws ?_
    refine st_reg mixed (by kernel_rfl) hS ?_
    refine cg (sp_assign (odb)) ?_
    refine sn fun a w hS => ?_
    refine et ?_
    refine wp_ret ?_
    refine exit_thenR ?_
    cases h
    exact st_ret hS (run_results1 Tryz.results3 a w) (hS.get rfl)
  have h := ite_f hb h
  refine wp_skip ?_
  refine et ?_
  refine ws ?_
  obtain ⟨v_5, e_6, h⟩ := bind_some h
  refine st_reg mixed (by kernel_rfl) hS ?_
  refine cg (sp_load ty25 (od rfl)) ?_
  refine mv rfl ?_
  refine cg (sp_call en18 (f18_ok e_6) ⟨od rfl, od rfl, trivial⟩) ?_
  refine mv rfl ?_
  refine cg (sp_extract (od rfl) rfl) ?_
  refine cg (sp_extract (od rfl) rfl) ?_
  refine cg (sp_assign (od rfl)) ?_
  refine cg (sp_assign (od rfl)) ?_
  refine sn fun a w hS => ?_
  refine et ?_
  refine ws ?_
  obtain ⟨v_7, e_8, h⟩ := bind_some h
  refine st_reg mixed (by kernel_rfl) hS ?_
  refine cg (sp_load ty25 (od rfl)) ?_
  refine mv rfl ?_
  refine cg (sp_call en19 (f19_ok e_8) ⟨od rfl, od rfl, trivial⟩) ?_
  refine mv rfl ?_
  refine cg (sp_extract (od rfl) rfl) ?_
  refine cg (sp_extract (od rfl) rfl) ?_
  refine cg (sp_assign (od rfl)) ?_
  refine cg (sp_assign (od rfl)) ?_
  refine sn fun a w hS => ?_
  refine et ?_
  refine ws ?_
  obtain ⟨v_9, e_10, h⟩ := bind_some h
  refine st_reg mixed (by kernel_rfl) hS ?_
  refine cg (sp_load ty25 (od rfl)) ?_
  refine mv rfl ?_
  refine cg (sp_call en20 (f20_ok e_10) ⟨od rfl, od rfl, trivial⟩) ?_
  refine mv rfl ?_
  refine cg (sp_extract (od rfl) rfl) ?_
  refine cg (sp_extract (od rfl) rfl) ?_
  refine cg (sp_extract (od rfl) rfl) ?_
  refine cg (sp_assign (od rfl)) ?_
  refine cg (sp_assign (od rfl)) ?_
  refine cg (sp_assign (od rfl)) ?_
  refine sn fun a w hS => ?_
  refine et ?_
  refine ws ?_
  obtain ⟨v_11, e_12, h⟩ := bind_some h
  refine st_reg mixed (by kernel_rfl) hS ?_
  refine cg (sp_load ty25 (od rfl)) ?_
  refine mv rfl ?_
  refine cg (sp_call en21 (f21_ok e_12) ⟨od rfl, od rfl, trivial⟩) ?_
  refine mv rfl ?_
  refine cg (sp_extract (od rfl) rfl) ?_
  refine cg (sp_extract (od rfl) rfl) ?_
  refine cg (sp_extract (od rfl) rfl) ?_
  refine cg (sp_assign (od rfl)) ?_
  refine cg (sp_assign (od rfl)) ?_
  refine cg (sp_assign (od rfl)) ?_
  refine sn fun a w hS => ?_
  refine et ?_
  refine ws ?_
  obtain ⟨v_13, e_14, h⟩ := bind_some h
  refine st_reg mixed (by kernel_rfl) hS ?_
  refine cg (sp_load ty25 (od rfl)) ?_
  refine mv rfl ?_
  refine cg (sp_call en22 (f22_ok e_14) ⟨od rfl, od rfl, trivial⟩) ?_
  refine mv rfl ?_
  refine cg (sp_extract (od rfl) rfl) ?_
  refine cg (sp_extract (od rfl) rfl) ?_
  refine cg (sp_assign (od rfl)) ?_
  refine cg (sp_assign (od rfl)) ?_
  refine sn fun a w hS => ?_
  refine et ?_
  refine ws ?_
  obtain ⟨v_15, e_16, h⟩ := bind_some h
  refine st_reg mixed (by kernel_rfl) hS ?_
  refine cg (sp_load ty25 (od rfl)) ?_
  refine mv rfl ?_
  refine cg (sp_call en23 (f23_ok e_16) ⟨od rfl, od rfl, trivial⟩) ?_
  refine mv rfl ?_
  refine cg (sp_extract (od rfl) rfl) ?_
  refine cg (sp_extract (od rfl) rfl) ?_
  refine cg (sp_assign (od rfl)) ?_
  refine cg (sp_assign (od rfl)) ?_
  refine sn fun a w hS => ?_
  refine et ?_
  refine ws ?_
  obtain ⟨v_17, e_18, h⟩ := bind_some h
  obtain ⟨v_19, e_20, h⟩ := bind_some h
  obtain ⟨v_21, e_22, h⟩ := bind_some h
  obtain ⟨v_23, e_24, h⟩ := bind_some h
  obtain ⟨v_25, e_26, h⟩ := bind_some h
  obtain ⟨v_27, e_28, h⟩ := bind_some h
  obtain ⟨v_29, e_30, h⟩ := bind_some h
  refine st_reg mixed (by kernel_rfl) hS ?_
  refine mv rfl ?_
  refine mv rfl ?_
  refine cg (sp_call en24 (f24_ok e_18) ⟨od rfl, od rfl, trivial⟩) ?_
  refine mv rfl ?_
  refine sc (sgT rfl fun hG => sp_move (od rfl)) ?_
  refine sc (sgT rfl fun hG => sp_move (od rfl)) ?_
  refine sc (sgT rfl fun hG => sp_eql (odw rfl hG) (odw rfl hG)) ?_
  refine cg (sp_pickAnd (od rfl) fun hg => odw rfl hg) ?_
  refine mv rfl ?_
  refine sc (sgT rfl fun hG => sp_move (od rfl)) ?_
  refine sc (sgT rfl fun hG => sp_move (od rfl)) ?_
  refine sc (sgT rfl fun hG => sp_call en24 (f24_ok (guard_some e_20 hG)) ⟨odw rfl hG, odw rfl hG, trivial⟩) ?_
  refine cg (sp_pickAnd (od rfl) fun hg => odw rfl hg) ?_
  refine mv rfl ?_
  refine sc (sgT rfl fun hG => sp_move (od rfl)) ?_
  refine sc (sgT rfl fun hG => sp_move (od rfl)) ?_
  refine sc (sgT rfl fun hG => sp_eqlB Tryz.underlying4 (odw rfl hG) (odw rfl hG)) ?_
  refine cg (sp_pickAnd (od rfl) fun hg => odw rfl hg) ?_
  refine mv rfl ?_
  refine sc (sgT rfl fun hG => sp_move (od rfl)) ?_
  refine sc (sgT rfl fun hG => sp_move (od rfl)) ?_
  refine sc (sgT rfl fun hG => sp_eql (odw rfl hG) (odw rfl hG)) ?_
  refine cg (sp_pickAnd (od rfl) fun hg => odw rfl hg) ?_
  refine mv rfl ?_
  refine sc (sgT rfl fun hG => sp_move (od rfl)) ?_
  refine sc (sgT rfl fun hG => sp_move (od rfl)) ?_
  refine sc (sgT rfl fun hG => sp_call en24 (f24_ok (guard_some e_22 hG)) ⟨odw rfl hG, odw rfl hG, trivial⟩) ?_
  refine cg (sp_pickAnd (od rfl) fun hg => odw rfl hg) ?_
  refine mv rfl ?_
  refine sc (sgT rfl fun hG => sp_move (od rfl)) ?_
  refine sc (sgT rfl fun hG => sp_move (od rfl)) ?_
  refine sc (sgT rfl fun hG => sp_eql (odw rfl hG) (odw rfl hG)) ?_
  refine cg (sp_pickAnd (od rfl) fun hg => odw rfl hg) ?_
  refine mv rfl ?_
  refine sc (sgT rfl fun hG => sp_load ty25 (od rfl)) ?_
  refine sc (sgT rfl fun hG => sp_move (od rfl)) ?_
  refine sc (sgT rfl fun hG => sp_move (od rfl)) ?_
  refine sc (sgT rfl fun hG => sp_call en25 (f25_ok (guard_some e_24 hG)) ⟨odw rfl hG, odw rfl hG, odw rfl hG, trivial⟩) ?_
  refine sc (sgT rfl fun hG => sp_load ty25 (od rfl)) ?_
  refine sc (sgT rfl fun hG => sp_move (od rfl)) ?_
  refine sc (sgT rfl fun hG => sp_move (od rfl)) ?_
  refine sc (sgT rfl fun hG => sp_call en26 (f26_ok (guard_some e_26 hG)) ⟨odw rfl hG, odw rfl hG, odw rfl hG, trivial⟩) ?_
  refine sc (sgT rfl fun hG => sp_eql (odw rfl hG) (odw rfl hG)) ?_
  refine cg (sp_pickAnd (od rfl) fun hg => odw rfl hg) ?_
  refine mv rfl ?_
  refine sc (sgT rfl fun hG => sp_load ty25 (od rfl)) ?_
  refine sc (sgT rfl fun hG => sp_move (od rfl)) ?_
  refine sc (sgT rfl fun hG => sp_move (od rfl)) ?_
  refine sc (sgT rfl fun hG => sp_move (od rfl)) ?_
  refine sc (sgT rfl fun hG => sp_call en27 (f27_ok (guard_some e_28 hG)) ⟨odw rfl hG, odw rfl hG, odw rfl hG, odw rfl hG, trivial⟩) ?_
  refine sc (sgT rfl fun hG => sp_load ty25 (od rfl)) ?_
  refine sc (sgT rfl fun hG => sp_move (od rfl)) ?_
  refine sc (sgT rfl fun hG => sp_move (od rfl)) ?_
  refine sc (sgT rfl fun hG => sp_move (od rfl)) ?_
  refine sc (sgT rfl fun hG => sp_call en28 (f28_ok (guard_some e_30 hG)) ⟨odw rfl hG, odw rfl hG, odw rfl hG, odw rfl hG, trivial⟩) ?_
  refine sc (sgT rfl fun hG => sp_eql (odw rfl hG) (odw rfl hG)) ?_
  refine cg (sp_pickAnd (od rfl) fun hg => odw rfl hg) ?_
  refine cg (sp_assign (od rfl)) ?_
  refine sn fun a w hS => ?_
  refine et ?_
  refine wp_ret ?_
  cases h
  exact st_ret hS (run_results1 Tryz.results3 a w) (hS.get rfl)

end Go.Proofs.YthogdhepjcomjaaGreatDoor
