/-
  What is proved: each Go function named here returns what its model tells, and changes nothing that was there; where the model tells something.
-/
import Derived.Test.YthogdhepjcomjaaGreatDoorWalkP
import Derived.Test.YthogdhepjcomjaaGreatDoorModelQ
set_option linter.unusedVariables false
set_option maxRecDepth 100000
namespace Go.Proofs.YthogdhepjcomjaaGreatDoor
open Go Go.RowKit Go.Proofs.YthogdhepjcomjaaGreatDoor.Wh

theorem f60_ok {p0 : List (List Int)} {p1 : List (List Int)} {r : Bool} (h : M.f60 p0 p1 = some r) : CallOK Tryz.prog 60 [isV p0, isV p1] (isV r) := by
  unfold M.f60 at h
  refine callS_of Tryz.func60 rfl Tryz.ntmps60 rfl fun F0 w0 a hS => ?_
  refine ws ?_
  refine st_reg mixed (by kernel_rfl) hS ?_
  refine cg (sp_assign (odb)) ?_
  refine sn fun a w hS => ?_
  refine et ?_
  refine ws ?_
  refine ws ?_
  refine st_reg mixed (by kernel_rfl) hS ?_
  refine mv rfl ?_
  refine cg (sp_len Tryz.underlying22 (od rfl)) ?_
  refine cg (sp_move (odi)) ?_
  refine sn fun a w hS => ?_
  refine et ?_
  refine wp_block ?_
  obtain ⟨o_4, e_5, hr_6⟩ := bind_some h
  refine c_loop (fun K a w => ∃ k i_1 s_3, K = k + 1 ∧ ForI _ _ _ o_4 k i_1 s_3 ∧ St 37 F0 [] [(0, isV (α := List (List Int)) p0), (1, isV (α := List (List Int)) p1), (8, isV (α := Int) (p0.length : Int)), (9, isV (α := Int) i_1)] w0 a w) ?_ ?_ ⟨_, _, _, rfl, for_init e_5, hS.weak ⟨od rfl, od rfl, od rfl, od rfl, trivial⟩⟩
  · rintro a w ⟨_, _, _, hk, _⟩; cases hk
  rintro K a w ⟨k_4, i_1, s_3, hk, hF_4, hS⟩
  obtain rfl := Nat.succ.inj hk
  refine ws ?_
  refine st_reg mixed (by kernel_rfl) hS ?_
  refine cg (sp_lss (od rfl) (od rfl)) ?_
  refine sn fun a w hS => ?_
  refine et ?_
  refine ws ?_
  refine st_cond hS rfl (fun hb => ?_) (fun hb => ?_)
  · refine wp_skip ?_
    refine et ?_
    obtain ⟨k_4, o, rfl, h, hN_4, hL_4, hw_4⟩ := for_more hF_4 hb
    refine ws ?_
    refine wp_block ?_
    refine ws ?_
    refine st_reg mixed (by kernel_rfl) hS ?_
    refine mv rfl ?_
    refine cg (sp_assign (od rfl)) ?_
    refine sn fun a w hS => ?_
    refine et ?_
    refine ws ?_
    obtain ⟨v_7, e_8, h⟩ := bind_some h
    refine st_reg mixed (by kernel_rfl) hS ?_
    refine mv rfl ?_
    refine mv rfl ?_
    refine cg (sp_indexAddr sl22 (od rfl) (od rfl) e_8) ?_
    refine cg (sp_load ty26 (od rfl)) ?_
    refine cg (sp_len Tryz.underlying26 (od rfl)) ?_
    refine cg (sp_move (odi)) ?_
    refine sn fun a w hS => ?_
    refine et ?_
    refine wp_block ?_
    obtain ⟨o_12, e_13, hr_14⟩ := bind_some h
    refine c_loop (fun K a w => ∃ k i_9 s_11, K = k + 1 ∧ ForI _ _ _ o_12 k i_9 s_11 ∧ St 37 F0 [] [(0, isV (α := List (List Int)) p0), (1, isV (α := List (List Int)) p1), (5, isV (α := Int) i_1), (8, isV (α := Int) (p0.length : Int)), (9, isV (α := Int) i_1), (16, isV (α := Int) (v_7.length : Int)), (17, isV (α := Int) i_9)] w0 a w) ?_ ?_ ⟨_, _, _, rfl, for_init e_13, hS.weak ⟨od rfl, od rfl, od rfl, od rfl, od rfl, od rfl, od rfl, trivial⟩⟩
    · rintro a w ⟨_, _, _, hk, _⟩; cases hk
    rintro K a w ⟨k_12, i_9, s_11, hk, hF_12, hS⟩
    obtain rfl := Nat.succ.inj hk
    refine ws ?_
    refine st_reg mixed (by kernel_rfl) hS ?_
    refine cg (sp_lss (od rfl) (od rfl)) ?_
    refine sn fun a w hS => ?_
    refine et ?_
    refine ws ?_
    refine st_cond hS rfl (fun hb => ?_) (fun hb => ?_)
    · refine wp_skip ?_
      refine et ?_
      obtain ⟨k_12, o, rfl, h, hN_12, hL_12, hw_12⟩ := for_more hF_12 hb
      refine ws ?_
      refine wp_block ?_
      refine ws ?_
      refine st_reg mixed (by kernel_rfl) hS ?_
      refine mv rfl ?_
      refine cg (sp_assign (od rfl)) ?_
      refine sn fun a w hS => ?_
      refine et ?_
      refine ws ?_
      obtain ⟨v_15, e_16, h⟩ := bind_some h
      obtain ⟨v_17, e_18, h⟩ := bind_some h
      obtain ⟨v_19, e_20, h⟩ := bind_some h
      obtain ⟨v_21, e_22, h⟩ := bind_some h
      refine st_reg mixed (by kernel_rfl) hS ?_
      refine mv rfl ?_
      refine mv rfl ?_
      refine cg (sp_indexAddr sl22 (od rfl) (od rfl) e_16) ?_
      refine cg (sp_load ty26 (od rfl)) ?_
      refine mv rfl ?_
      refine cg (sp_indexAddr sl26 (od rfl) (od rfl) e_18) ?_
      refine cg (sp_load ty3 (od rfl)) ?_
      refine mv rfl ?_
      refine mv rfl ?_
      refine cg (sp_indexAddr sl22 (od rfl) (od rfl) e_20) ?_
      refine cg (sp_load ty26 (od rfl)) ?_
      refine mv rfl ?_
      refine cg (sp_indexAddr sl26 (od rfl) (od rfl) e_22) ?_
      refine cg (sp_load ty3 (od rfl)) ?_
      refine cg (sp_gtr (od rfl) (od rfl)) ?_
      refine sn fun a w hS => ?_
      refine et ?_
      refine st_cond hS rfl (fun hb => ?_) (fun hb => ?_)
      · have h := ite_t hb h
        refine ws ?_
        refine st_reg mixed (by kernel_rfl) hS ?_
        refine cg (sp_assign (odb)) ?_
        refine sn fun a w hS => ?_
        refine et ?_
        refine wp_ret ?_
        refine exit_blockR ?_
        refine exit_thenR ?_
        cases h
        obtain rfl := hL_12 _ rfl
        have h := (elim_leave hr_14)
        refine exit_thenR ?_
        refine exit_blockR ?_
        refine exit_blockR ?_
        refine exit_thenR ?_
        cases h
        obtain rfl := hL_4 _ rfl
        have h := (elim_leave hr_6)
        refine exit_thenR ?_
        refine exit_blockR ?_
        refine exit_thenR ?_
        cases h
        exact st_ret hS (run_results1 Tryz.results60 a w) (hS.get rfl)
      have h := ite_f hb h
      refine wp_skip ?_
      refine exit_block ?_
      refine et ?_
      refine st_reg mixed (by kernel_rfl) hS ?_
      refine cg (sp_add (od rfl) (odi)) ?_
      refine mv rfl ?_
      refine sn fun a w hS => ?_
      cases h
      exact ⟨k_12, _, _, rfl, hN_12 _ rfl, hS.weak ⟨od rfl, od rfl, od rfl, od rfl, od rfl, od rfl, od (congrArg (fun z => some (isV (α := Int) z)) hw_12), trivial⟩⟩
    refine wp_exit ?_
    obtain rfl := for_done hF_12 hb
    have h := elim_again hr_14
    refine exit_thenE ?_
    refine exit_thenE ?_
    refine exit_here ?_
    refine exit_block ?_
    refine et ?_
    refine st_reg mixed (by kernel_rfl) hS ?_
    refine cg (sp_add (od rfl) (odi)) ?_
    refine mv rfl ?_
    refine sn fun a w hS => ?_
    cases h
    exact ⟨k_4, _, _, rfl, hN_4 _ rfl, hS.weak ⟨od rfl, od rfl, od rfl, od (congrArg (fun z => some (isV (α := Int) z)) hw_4), trivial⟩⟩
  refine wp_exit ?_
  obtain rfl := for_done hF_4 hb
  have h := elim_again hr_6
  refine exit_thenE ?_
  refine exit_thenE ?_
  refine exit_here ?_
  refine et ?_
  refine ws ?_
  refine st_reg mixed (by kernel_rfl) hS ?_
  refine cg (sp_assign (odb)) ?_
  refine sn fun a w hS => ?_
  refine et ?_
  refine wp_ret ?_
  cases h
  exact st_ret hS (run_results1 Tryz.results60 a w) (hS.get rfl)

theorem f62_ok {p0 : S_api_Roster} {p1 : Int} {r : S_api_Roster} (h : M.f62 p0 p1 = some r) : CallOK Tryz.prog 62 [isV p0, isV p1] (isV r) := by
  unfold M.f62 at h
  refine callS_of Tryz.func62 rfl Tryz.ntmps62 rfl fun F0 w0 a hS => ?_
  refine ws ?_
  refine l_start ?_
  refine s_c hS (sg (sp_box (od rfl))) rfl fun a w hS hM => ?_
  refine s_alloc zi25 hS rfl fun a w b_1 hS hM => ?_
  have hS : St _ F0 [Item.box (α := S_api_Roster) 25 b_1 ((0, 0, 0, [], []) : S_api_Roster)] _ w0 _ _ := hS
  refine l_end ?_
  refine et ?_
  refine ws ?_
  refine l_start ?_
  refine s_c hS (sg (sp_load ty25 (od rfl))) rfl fun a w hS hM => ?_
  refine s_alloc ziR25_3 hS rfl fun a w b_2 hS hM => ?_
  have hS : St _ F0 [Item.box (α := S_api_Roster) 25 b_1 ((0, 0, 0, [], []) : S_api_Roster), Item.box (α := Int × Int × Int × Raw × (List S_api_Turn)) 25 b_2 ((0 : Int), (0 : Int), (0 : Int), (Raw.mk (.slice none 0 0)), ([] : List S_api_Turn))] _ w0 _ _ := hS
  have hS := st_nil (α := List Int) 26 hS
  have hS : St _ F0 [Item.box (α := S_api_Roster) 25 b_1 ((0, 0, 0, [], []) : S_api_Roster), Item.box (α := Int × Int × Int × Raw × (List S_api_Turn)) 25 b_2 ((0 : Int), (0 : Int), (0 : Int), (Raw.mk (.slice none 0 0)), ([] : List S_api_Turn)), Item.sl (α := List Int) 26 (.slice none 0 0) ([] : List (List Int))] _ w0 _ _ := hS
  refine s_storeB2 (α := Int × Int × Int × Raw × (List S_api_Turn)) (k := 1) (Δ := [(1, isV (α := Int) p1), (2, isA (α := S_api_Roster) p0), (4, Pr.ptr b_1), (5, Pr.ptr b_2), (10, isV (α := S_api_Roster) p0)]) ty25 rfl hS rfl ⟨od rfl, od rfl, od rfl, od rfl, od rfl, trivial⟩ ⟨fun _ _ _ _ h => h, fun _ _ _ _ h => h, fun _ _ _ _ h => h, fun _ _ _ _ h => h, fun _ _ _ _ h => h, trivial⟩ rfl (od rfl) fun w hS hM => ?_
  obtain ⟨v_3, hS⟩ := st_toraw (α := Int × Int × Int × (List (List Int)) × (List S_api_Turn)) 1 hS rfl (ToR.snd (ToR.snd (ToR.snd (ToR.fst ToR.self))))
  have hS : St _ F0 [Item.box (α := S_api_Roster) 25 b_1 ((0, 0, 0, [], []) : S_api_Roster), Item.box (α := Int × Int × Int × Raw × (List S_api_Turn)) 25 b_2 (p0.1, p0.2.1, p0.2.2.1, (Raw.mk v_3), p0.2.2.2.2), Item.sl (α := List Int) 26 (.slice none 0 0) ([] : List (List Int))] _ w0 _ _ := hS
  refine l_end ?_
  refine et ?_
  refine ws ?_
  have hS := st_drop 2 hS
  refine l_start ?_
  refine s_c hS (sg (sp_fieldAddrP fo25_3 (od rfl))) rfl fun a w hS hM => ?_
  have hS := st_nil (α := List Int) 26 hS
  refine s_storeP (k := 1) (off := 3) (Δ := [(1, isV (α := Int) p1), (2, isA (α := S_api_Roster) p0), (4, Pr.ptr b_1), (5, Pr.ptr b_2), (11, Pr.is (.pointer (some ⟨b_2, 3, none⟩)))]) tyR22_w hS rfl ⟨od rfl, od rfl, od rfl, od rfl, od rfl, trivial⟩ ⟨fun _ _ _ _ h => h, fun _ _ _ _ h => h, fun _ _ _ _ h => h, fun _ _ _ _ h => h, fun _ _ _ _ h => h, trivial⟩ (od rfl) (odRaw (odc fun _ => rfl) rfl) sf25_3_3 fun w hS hM => ?_
  have hS : St _ F0 [Item.box (α := S_api_Roster) 25 b_1 ((0, 0, 0, [], []) : S_api_Roster), Item.box (α := Int × Int × Int × Raw × (List S_api_Turn)) 25 b_2 (p0.1, p0.2.1, p0.2.2.1, (Raw.mk (.slice none 0 0)), p0.2.2.2.2), Item.sl (α := List Int) 26 (.slice none 0 0) ([] : List (List Int))] _ w0 _ _ := hS
  refine l_end ?_
  refine et ?_
  refine ws ?_
  refine ws ?_
  refine st_reg mixed (by kernel_rfl) hS ?_
  refine cg (sp_fieldAddr fd25_3 (od rfl)) ?_
  refine cg (sp_load ty22 (od rfl)) ?_
  refine cg (sp_len Tryz.underlying22 (od rfl)) ?_
  refine cg (sp_move (odi)) ?_
  refine sn fun a w hS => ?_
  refine et ?_
  refine wp_block ?_
  obtain ⟨o_7, e_8, hr_9⟩ := bind_some h
  refine c_loop (fun K a w => ∃ k i_4 s_6, ∃ u_10 : Value, K = k + 1 ∧ ForT _ _ _ o_7 k i_4 s_6 ∧ St 46 F0 [Item.box (α := S_api_Roster) 25 b_1 ((0, 0, 0, [], []) : S_api_Roster), Item.box (α := Int × Int × Int × Raw × (List S_api_Turn)) 25 b_2 (p0.1, p0.2.1, p0.2.2.1, (Raw.mk u_10), p0.2.2.2.2), Item.sl (α := List Int) 26 u_10 s_6] [(1, isV (α := Int) p1), (4, Pr.ptr b_1), (5, Pr.ptr b_2), (13, isV (α := List (List Int)) p0.2.2.2.1), (14, isV (α := Int) (p0.2.2.2.1.length : Int)), (15, isV (α := Int) i_4)] w0 a w) ?_ ?_ ⟨_, _, _, (.slice none 0 0), rfl, fors_init e_8, hS.weak ⟨od rfl, od rfl, od rfl, od rfl, od rfl, od rfl, trivial⟩⟩
  · rintro a w ⟨_, _, _, _, hk, _⟩; cases hk
  rintro K a w ⟨k_7, i_4, s_6, u_10, hk, hF_7, hS⟩
  obtain rfl := Nat.succ.inj hk
  refine ws ?_
  refine st_reg mixed (by kernel_rfl) hS ?_
  refine cg (sp_lss (od rfl) (od rfl)) ?_
  refine sn fun a w hS => ?_
  refine et ?_
  refine ws ?_
  refine st_cond hS rfl (fun hb => ?_) (fun hb => ?_)
  · refine wp_skip ?_
    refine et ?_
    obtain ⟨k_7, s', rfl, h, hF_7, hw_7⟩ := fors_more hF_7 hb
    refine ws ?_
    refine wp_block ?_
    refine ws ?_
    obtain ⟨v_11, e_12, h⟩ := bind_some h
    refine st_reg mixed (by kernel_rfl) hS ?_
    refine mv rfl ?_
    refine cg (sp_indexAddr sl22 (od rfl) (od rfl) e_12) ?_
    refine cg (sp_load ty26 (od rfl)) ?_
    refine cg (sp_assign (od rfl)) ?_
    refine cg (sp_assign (od rfl)) ?_
    refine sn fun a w hS => ?_
    refine et ?_
    refine ws ?_
    obtain ⟨m_13, e_14, h⟩ := bind_some h
    refine l_start ?_
    refine s_c hS (sg (sp_move (od rfl))) rfl fun a w hS hM => ?_
    refine s_callI en45 (f45_ok e_14) hS ⟨od rfl, trivial⟩ rfl fun a w u_15 x_16 hS hM => ?_
    have hS : St _ F0 [Item.box (α := S_api_Roster) 25 b_1 ((0, 0, 0, [], []) : S_api_Roster), Item.box (α := Int × Int × Int × Raw × (List S_api_Turn)) 25 b_2 (p0.1, p0.2.1, p0.2.2.1, (Raw.mk u_10), p0.2.2.2.2), Item.sl (α := List Int) 26 u_10 s_6, Item.sl (α := Int) 3 u_15 m_13] _ w0 _ _ := hS
    refine s_c hS (sg (sp_assign (od rfl))) rfl fun a w hS hM => ?_
    refine l_end ?_
    refine et ?_
    refine ws ?_
    refine ws ?_
    have hS := st_os 3 21 hS rfl rfl
    have hS := st_os 3 8 hS rfl rfl
    refine st_reg mixed (by kernel_rfl) hS ?_
    refine mv rfl ?_
    refine cg (sp_lenOS Tryz.underlying26 (od rfl)) ?_
    refine cg (sp_move (odi)) ?_
    refine sn fun a w hS => ?_
    refine et ?_
    refine wp_block ?_
    have hS := hS.weak (Δ := [(1, isV (α := Int) p1), (4, Pr.ptr b_1), (5, Pr.ptr b_2), (6, isV (α := Int) i_4), (8, Pr.is u_15), (13, isV (α := List (List Int)) p0.2.2.2.1), (14, isV (α := Int) (p0.2.2.2.1.length : Int)), (15, isV (α := Int) i_4), (23, isV (α := Int) (m_13.length : Int)), (24, isV (α := Int) 0)]) ⟨od rfl, od rfl, od rfl, od rfl, odOS rfl, od rfl, od rfl, od rfl, od rfl, od rfl, trivial⟩
    obtain ⟨o_20, e_21, hr_22⟩ := bind_some h
    refine c_loop (fun K a w => ∃ k i_17 s_19, K = k + 1 ∧ ForT _ _ _ o_20 k i_17 s_19 ∧ St 46 F0 [Item.box (α := S_api_Roster) 25 b_1 ((0, 0, 0, [], []) : S_api_Roster), Item.box (α := Int × Int × Int × Raw × (List S_api_Turn)) 25 b_2 (p0.1, p0.2.1, p0.2.2.1, (Raw.mk u_10), p0.2.2.2.2), Item.sl (α := List Int) 26 u_10 s_6, Item.sl (α := Int) 3 u_15 s_19] [(1, isV (α := Int) p1), (4, Pr.ptr b_1), (5, Pr.ptr b_2), (6, isV (α := Int) i_4), (8, Pr.is u_15), (13, isV (α := List (List Int)) p0.2.2.2.1), (14, isV (α := Int) (p0.2.2.2.1.length : Int)), (15, isV (α := Int) i_4), (23, isV (α := Int) (m_13.length : Int)), (24, isV (α := Int) i_17)] w0 a w) ?_ ?_ ⟨_, _, _, rfl, fors_init e_21, hS.weak ⟨od rfl, od rfl, od rfl, od rfl, od rfl, od rfl, od rfl, od rfl, od rfl, od rfl, trivial⟩⟩
    · rintro a w ⟨_, _, _, hk, _⟩; cases hk
    rintro K a w ⟨k_20, i_17, s_19, hk, hF_20, hS⟩
    obtain rfl := Nat.succ.inj hk
    refine ws ?_
    refine st_reg mixed (by kernel_rfl) hS ?_
    refine cg (sp_lss (od rfl) (od rfl)) ?_
    refine sn fun a w hS => ?_
    refine et ?_
    refine ws ?_
    refine st_cond hS rfl (fun hb => ?_) (fun hb => ?_)
    · refine wp_skip ?_
      refine et ?_
      obtain ⟨k_20, s', rfl, h, hF_20, hw_20⟩ := fors_more hF_20 hb
      refine ws ?_
      refine wp_block ?_
      refine ws ?_
      refine st_reg mixed (by kernel_rfl) hS ?_
      refine mv rfl ?_
      refine cg (sp_assign (od rfl)) ?_
      refine sn fun a w hS => ?_
      refine et ?_
      refine ws ?_
      refine st_reg mixed (by kernel_rfl) hS ?_
      refine mv rfl ?_
      refine mv rfl ?_
      refine cg (sp_neq (od rfl) (od rfl)) ?_
      refine sn fun a w hS => ?_
      refine et ?_
      obtain ⟨y_24, hj_23, h⟩ := bind_some h
      refine wp_mono (Q := fun e a w => e = Exit.normal ∧ St 46 F0 [Item.box (α := S_api_Roster) 25 b_1 ((0, 0, 0, [], []) : S_api_Roster), Item.box (α := Int × Int × Int × Raw × (List S_api_Turn)) 25 b_2 (p0.1, p0.2.1, p0.2.2.1, (Raw.mk u_10), p0.2.2.2.2), Item.sl (α := List Int) 26 u_10 s_6, Item.sl (α := Int) 3 u_15 y_24] [(1, isV (α := Int) p1), (4, Pr.ptr b_1), (5, Pr.ptr b_2), (6, isV (α := Int) i_4), (8, Pr.is u_15), (13, isV (α := List (List Int)) p0.2.2.2.1), (14, isV (α := Int) (p0.2.2.2.1.length : Int)), (15, isV (α := Int) i_4), (23, isV (α := Int) (m_13.length : Int)), (24, isV (α := Int) i_17)] w0 a w) ?_ ?_
      · refine st_cond hS rfl (fun hb => ?_) (fun hb => ?_)
        · have h := ite_t hb hj_23
          obtain ⟨v_25, e_26, h⟩ := bind_some h
          obtain ⟨v_27, e_28, h⟩ := bind_some h
          obtain ⟨z_29, e_30, h⟩ := bind_some h
          refine l_start ?_
          refine s_c hS (sg (sp_move (od rfl))) rfl fun a w hS hM => ?_
          refine s_c hS (sg (sp_move (od rfl))) rfl fun a w hS hM => ?_
          have hS := st_os 3 8 hS rfl rfl
          have hS := st_os 3 30 hS rfl rfl
          refine s_c hS (sg (sp_indexAddrOS sl26 (od rfl) (od rfl) e_26)) rfl fun a w hS hM => ?_
          refine s_c hS (sg (sp_loadEA ty3 (od rfl))) rfl fun a w hS hM => ?_
          refine s_c hS (sg (sp_move (od rfl))) rfl fun a w hS hM => ?_
          refine s_c hS (sg (sp_add (od rfl) (od rfl))) rfl fun a w hS hM => ?_
          refine s_c hS (sg (sp_indexAddrOS sl26 (od rfl) (od rfl) e_28)) rfl fun a w hS hM => ?_
          refine s_storeEA (k := 3) (j := i_17) (Δ := [(1, isV (α := Int) p1), (4, Pr.ptr b_1), (5, Pr.ptr b_2), (6, isV (α := Int) i_4), (8, Pr.is u_15), (13, isV (α := List (List Int)) p0.2.2.2.1), (14, isV (α := Int) (p0.2.2.2.1.length : Int)), (15, isV (α := Int) i_4), (23, isV (α := Int) (m_13.length : Int)), (24, isV (α := Int) i_17), (35, isV (α := Int) (wr (v_25 + p1))), (36, isEP Int u_15 i_17.toNat)]) ty3 hS rfl ⟨od rfl, od rfl, od rfl, od rfl, odOS rfl, od rfl, od rfl, od rfl, od rfl, od rfl, od rfl, odEP rfl, trivial⟩ ⟨fun _ _ _ _ h => h, fun _ _ _ _ h => h, fun _ _ _ _ h => h, fun _ _ _ _ h => h, fun _ _ _ _ h => h, fun _ _ _ _ h => h, fun _ _ _ _ h => h, fun _ _ _ _ h => h, fun _ _ _ _ h => h, fun _ _ _ _ h => h, fun _ _ _ _ h => h, fun _ _ _ _ h => h, trivial⟩ (odEP rfl) (od rfl) e_30 fun w hS hM => ?_
          have hS : St _ F0 [Item.box (α := S_api_Roster) 25 b_1 ((0, 0, 0, [], []) : S_api_Roster), Item.box (α := Int × Int × Int × Raw × (List S_api_Turn)) 25 b_2 (p0.1, p0.2.1, p0.2.2.1, (Raw.mk u_10), p0.2.2.2.2), Item.sl (α := List Int) 26 u_10 s_6, Item.sl (α := Int) 3 u_15 z_29] _ w0 _ _ := hS
          refine l_end ?_
          cases h
          exact ⟨rfl, hS.weak ⟨od rfl, od rfl, od rfl, od rfl, od rfl, od rfl, od rfl, od rfl, od rfl, od rfl, trivial⟩⟩
        have h := ite_f hb hj_23
        refine wp_skip ?_
        cases h
        exact ⟨rfl, hS.weak ⟨od rfl, od rfl, od rfl, od rfl, od rfl, od rfl, od rfl, od rfl, od rfl, od rfl, trivial⟩⟩
      rintro e a w ⟨rfl, hS⟩
      refine exit_block ?_
      refine et ?_
      refine st_reg mixed (by kernel_rfl) hS ?_
      refine cg (sp_add (od rfl) (odi)) ?_
      refine mv rfl ?_
      refine sn fun a w hS => ?_
      cases h
      exact ⟨k_20, _, _, rfl, hF_20, hS.weak ⟨od rfl, od rfl, od rfl, od rfl, od rfl, od rfl, od rfl, od rfl, od rfl, od (congrArg (fun z => some (isV (α := Int) z)) hw_20), trivial⟩⟩
    refine wp_exit ?_
    obtain rfl := (fors_done hF_20 hb).symm
    have h := hr_22
    refine exit_thenE ?_
    refine exit_thenE ?_
    refine exit_here ?_
    refine et ?_
    have hS := st_freeze 3 8 hS rfl rfl
    obtain ⟨z_31, e_32, h⟩ := bind_some h
    refine l_start ?_
    have hS := st_box 1 5 hS rfl rfl
    refine s_c hS (sg (sp_fieldAddrB fdR25_3_3 (odB rfl))) rfl fun a w hS hM => ?_
    refine s_c hS (sg (sp_loadRaw tyR22_w (od rfl))) rfl fun a w hS hM => ?_
    refine s_c hS (sg (sp_move (od rfl))) rfl fun a w hS hM => ?_
    refine s_c hS (sg (sp_buildSlice [.tmp 40] ([s_19] : List (List Int)) sl22 ze26 rfl rfl rfl rfl ⟨od rfl, trivial⟩)) rfl fun a w hS hM => ?_
    refine s_append (k := 2) (Δ := [(1, isV (α := Int) p1), (4, Pr.ptr b_1), (5, Pr.ptr b_2), (13, isV (α := List (List Int)) p0.2.2.2.1), (14, isV (α := Int) (p0.2.2.2.1.length : Int)), (15, isV (α := Int) i_4), (39, Pr.is u_10), (41, isV (α := List (List Int)) ([s_19] : List (List Int)))]) sl22 ze26 hS rfl ⟨od rfl, od rfl, odBx rfl, od rfl, od rfl, od rfl, od rfl, od rfl, trivial⟩ ⟨fun _ _ _ _ h => h, fun _ _ _ _ h => h, fun _ _ _ _ h => h, fun _ _ _ _ h => h, fun _ _ _ _ h => h, fun _ _ _ _ h => h, fun _ _ _ _ h => h, fun _ _ _ _ h => h, trivial⟩ (od rfl) (od rfl) e_32 rfl fun a w u_33 hS hM => ?_
    have hS : St _ F0 [Item.box (α := S_api_Roster) 25 b_1 ((0, 0, 0, [], []) : S_api_Roster), Item.box (α := Int × Int × Int × Raw × (List S_api_Turn)) 25 b_2 (p0.1, p0.2.1, p0.2.2.1, (Raw.mk u_10), p0.2.2.2.2), Item.sl (α := List Int) 26 u_33 z_31] _ w0 _ _ := hS
    refine s_c hS (sg (sp_fieldAddrP fo25_3 (od rfl))) rfl fun a w hS hM => ?_
    refine s_storeP (k := 1) (off := 3) (Δ := [(1, isV (α := Int) p1), (4, Pr.ptr b_1), (5, Pr.ptr b_2), (13, isV (α := List (List Int)) p0.2.2.2.1), (14, isV (α := Int) (p0.2.2.2.1.length : Int)), (15, isV (α := Int) i_4), (42, Pr.is u_33), (43, Pr.is (.pointer (some ⟨b_2, 3, none⟩)))]) tyR22_w hS rfl ⟨od rfl, od rfl, od rfl, od rfl, od rfl, od rfl, od rfl, od rfl, trivial⟩ ⟨fun _ _ _ _ h => h, fun _ _ _ _ h => h, fun _ _ _ _ h => h, fun _ _ _ _ h => h, fun _ _ _ _ h => h, fun _ _ _ _ h => h, fun _ _ _ _ h => h, fun _ _ _ _ h => h, trivial⟩ (od rfl) (odRaw (od rfl) (hS.one (k := 2) rfl)) sf25_3_3 fun w hS hM => ?_
    have hS : St _ F0 [Item.box (α := S_api_Roster) 25 b_1 ((0, 0, 0, [], []) : S_api_Roster), Item.box (α := Int × Int × Int × Raw × (List S_api_Turn)) 25 b_2 (p0.1, p0.2.1, p0.2.2.1, (Raw.mk u_33), p0.2.2.2.2), Item.sl (α := List Int) 26 u_33 z_31] _ w0 _ _ := hS
    refine l_end ?_
    refine exit_block ?_
    refine et ?_
    refine st_reg mixed (by kernel_rfl) hS ?_
    refine cg (sp_add (od rfl) (odi)) ?_
    refine mv rfl ?_
    refine sn fun a w hS => ?_
    cases h
    exact ⟨k_7, _, _, u_33, rfl, hF_7, hS.weak ⟨od rfl, od rfl, od rfl, od rfl, od rfl, od (congrArg (fun z => some (isV (α := Int) z)) hw_7), trivial⟩⟩
  refine wp_exit ?_
  obtain rfl := (fors_done hF_7 hb).symm
  have h := hr_9
  refine exit_thenE ?_
  refine exit_thenE ?_
  refine exit_here ?_
  refine et ?_
  refine ws ?_
  have hS := st_unraw 2 1 hS rfl rfl (UnR.snd (UnR.snd (UnR.snd (UnR.fst UnR.self))))
  have hS : St _ F0 [Item.box (α := S_api_Roster) 25 b_1 ((0, 0, 0, [], []) : S_api_Roster), Item.box (α := S_api_Roster) 25 b_2 ((p0.1, p0.2.1, p0.2.2.1, s_6, p0.2.2.2.2) : S_api_Roster)] _ w0 _ _ := hS
  have hS := st_freezeB 1 5 hS rfl rfl
  refine l_start ?_
  refine s_c hS (sg (sp_load ty25 (od rfl))) rfl fun a w hS hM => ?_
  refine s_storeB (k := 0) (Δ := [(4, Pr.ptr b_1), (45, isV (α := S_api_Roster) ((p0.1, p0.2.1, p0.2.2.1, s_6, p0.2.2.2.2) : S_api_Roster))]) ty25 hS rfl ⟨od rfl, od rfl, trivial⟩ ⟨fun _ _ _ _ h => h, fun _ _ _ _ h => h, trivial⟩ rfl (od rfl) fun w hS hM => ?_
  have hS : St _ F0 [Item.box (α := S_api_Roster) 25 b_1 ((p0.1, p0.2.1, p0.2.2.1, s_6, p0.2.2.2.2) : S_api_Roster)] _ w0 _ _ := hS
  have hS := st_freezeB 0 4 hS rfl rfl
  refine l_end ?_
  refine et ?_
  refine wp_ret ?_
  cases h
  obtain ⟨v, hr, hv⟩ := run_resC1 Tryz.results62 ty25 (hS.get rfl)
  exact st_ret hS hr hv

theorem f12_ok {fuel : Nat} {p0 : S_api_Roster} {p1 : Int} {p2 : List Int} {p3 : List (List Int)} {p4 : S_api_Turn} {r : Bool} (h : M.f12 fuel p0 p1 p2 p3 p4 = some r) : CallT Tryz.prog 12 [isV p0, isV p1, isV p2, isV p3, isV p4] (isV r) := by
  unfold M.f12 at h
  refine callT_of Tryz.func12 rfl Tryz.ntmps12 rfl fun F0 w0 a hT hS => ?_
  refine ws ?_
  refine st_reg mixed (by kernel_rfl) hS ?_
  refine cg (sp_box (od rfl)) ?_
  refine cg (sp_box (od rfl)) ?_
  refine cg (sp_assign (odb)) ?_
  refine sn fun a w hS => ?_
  refine et ?_
  refine ws ?_
  refine ws ?_
  obtain ⟨v_1, e_2, h⟩ := bind_some h
  refine l_start ?_
  refine s_callT en16 (f16_ok e_2) hT hS trivial rfl fun a w hS hM => ?_
  refine s_c hS (sg (sp_not (od rfl))) rfl fun a w hS hM => ?_
  refine l_end ?_
  refine et ?_
  refine st_cond hS rfl (fun hb => ?_) (fun hb => ?_)
  · have h := ite_t hb h
    refine ws ?_
    refine st_reg mixed (by kernel_rfl) hS ?_
    refine cg (sp_assign (odb)) ?_
    refine sn fun a w hS => ?_
    refine et ?_
    refine wp_ret ?_
    refine exit_thenR ?_
    cases h
    exact st_ret hS (run_results1 Tryz.results12 a w) (hS.get rfl)
  have h := ite_f hb h
  refine wp_skip ?_
  refine et ?_
  refine ws ?_
  refine ws ?_
  obtain ⟨v_3, e_4, h⟩ := bind_some h
  obtain ⟨v_5, e_6, h⟩ := bind_some h
  refine st_reg mixed (by kernel_rfl) hS ?_
  refine cg (sp_load ty25 (od rfl)) ?_
  refine cg (sp_call en33 (f33_ok e_4) ⟨od rfl, trivial⟩) ?_
  refine cg (sp_not (od rfl)) ?_
  refine mv rfl ?_
  refine sc (sgF rfl fun hG => sp_load ty25 (od rfl)) ?_
  refine sc (sgF rfl fun hG => sp_move (od rfl)) ?_
  refine sc (sgF rfl fun hG => sp_buildSlice [.tmp 40] ([p2] : List (List Int)) sl22 ze26 rfl rfl rfl rfl ⟨odw rfl hG, trivial⟩) ?_
  refine sc (sgF rfl fun hG => sp_call en17 (f17_ok (guard_some e_6 hG)) ⟨odw rfl hG, odw rfl hG, trivial⟩) ?_
  refine sc (sgF rfl fun hG => sp_not (odw rfl hG)) ?_
  refine cg (sp_pickOr (od rfl) fun hg => odw rfl (not_t hg)) ?_
  refine mv rfl ?_
  refine sc (sgF rfl fun hG => sp_move (od rfl)) ?_
  refine sc (sgF rfl fun hG => sp_lss (odw rfl hG) (odi)) ?_
  refine cg (sp_pickOr (od rfl) fun hg => odw rfl (not_t hg)) ?_
  refine mv rfl ?_
  refine sc (sgF rfl fun hG => sp_move (od rfl)) ?_
  refine sc (sgF rfl fun hG => sp_fieldAddr fd25_0 (od rfl)) ?_
  refine sc (sgF rfl fun hG => sp_load ty3 (odw rfl hG)) ?_
  refine sc (sgF rfl fun hG => sp_geq (odw rfl hG) (odw rfl hG)) ?_
  refine cg (sp_pickOr (od rfl) fun hg => odw rfl (not_t hg)) ?_
  refine sn fun a w hS => ?_
  refine et ?_
  refine st_cond hS rfl (fun hb => ?_) (fun hb => ?_)
  · have h := ite_t hb h
    refine ws ?_
    refine st_reg mixed (by kernel_rfl) hS ?_
    refine cg (sp_assign (odb)) ?_
    refine sn fun a w hS => ?_
    refine et ?_
    refine wp_ret ?_
    refine exit_thenR ?_
    cases h
    exact st_ret hS (run_results1 Tryz.results12 a w) (hS.get rfl)
  have h := ite_f hb h
  refine wp_skip ?_
  refine et ?_
  refine ws ?_
  obtain ⟨v_7, e_8, h⟩ := bind_some h
  refine st_reg mixed (by kernel_rfl) hS ?_
  refine cg (sp_load ty25 (od rfl)) ?_
  refine mv rfl ?_
  refine cg (sp_call en34 (f34_ok e_8) ⟨od rfl, od rfl, trivial⟩) ?_
  refine mv rfl ?_
  refine cg (sp_extract (od rfl) rfl) ?_
  refine cg (sp_extract (od rfl) rfl) ?_
  refine cg (sp_extract (od rfl) rfl) ?_
  refine cg (sp_assign (od rfl)) ?_
  refine cg (sp_assign (od rfl)) ?_
  refine cg (sp_assign (od rfl)) ?_
  refine sn fun a w hS => ?_
  refine et ?_
  refine ws ?_
  refine ws ?_
  refine st_reg mixed (by kernel_rfl) hS ?_
  refine mv rfl ?_
  refine cg (sp_neq (od rfl) (odi)) ?_
  refine sn fun a w hS => ?_
  refine et ?_
  refine st_cond hS rfl (fun hb => ?_) (fun hb => ?_)
  · have h := ite_t hb h
    refine ws ?_
    refine st_reg mixed (by kernel_rfl) hS ?_
    refine cg (sp_assign (odb)) ?_
    refine sn fun a w hS => ?_
    refine et ?_
    refine wp_ret ?_
    refine exit_thenR ?_
    cases h
    exact st_ret hS (run_results1 Tryz.results12 a w) (hS.get rfl)
  have h := ite_f hb h
  refine wp_skip ?_
  refine et ?_
  refine ws ?_
  refine ws ?_
  obtain ⟨v_9, e_10, h⟩ := bind_some h
  refine st_reg mixed (by kernel_rfl) hS ?_
  refine cg (sp_load ty25 (od rfl)) ?_
  refine mv rfl ?_
  refine mv rfl ?_
  refine cg (sp_call en35 (f35_ok e_10) ⟨od rfl, od rfl, od rfl, trivial⟩) ?_
  refine cg (sp_neq (od rfl) (odi)) ?_
  refine sn fun a w hS => ?_
  refine et ?_
  obtain ⟨y_12, hj_11, h⟩ := bind_some h
  refine wp_mono (Q := fun e a w => e = Exit.normal ∧ St 230 F0 [] [(1, isV (α := Int) p1), (2, isV (α := List Int) y_12), (3, isV (α := List (List Int)) p3), (5, isA (α := S_api_Roster) p0), (9, isA (α := S_api_Turn) p4), (11, isV (α := List Int) v_7.1), (12, isV (α := Bool) v_7.2.1)] w0 a w) ?_ ?_
  · refine st_cond hS rfl (fun hb => ?_) (fun hb => ?_)
    · have h := ite_t hb hj_11
      refine st_reg mixed (by kernel_rfl) hS ?_
      refine mv rfl ?_
      refine cg (sp_assign (od rfl)) ?_
      refine sn fun a w hS => ?_
      cases h
      exact ⟨rfl, hS.weak ⟨od rfl, od rfl, od rfl, od rfl, od rfl, od rfl, od rfl, trivial⟩⟩
    have h := ite_f hb hj_11
    refine wp_skip ?_
    cases h
    exact ⟨rfl, hS.weak ⟨od rfl, od rfl, od rfl, od rfl, od rfl, od rfl, od rfl, trivial⟩⟩
  rintro e a w ⟨rfl, hS⟩
  refine et ?_
  refine ws ?_
  refine st_reg mixed (by kernel_rfl) hS ?_
  refine mv rfl ?_
  refine mv rfl ?_
  refine sc (sgT rfl fun hG => sp_move (od rfl)) ?_
  refine sc (sgT rfl fun hG => sp_len Tryz.underlying26 (odw rfl hG)) ?_
  refine sc (sgT rfl fun hG => sp_gtr (odw rfl hG) (odi)) ?_
  refine cg (sp_pickAnd (od rfl) fun hg => odw rfl hg) ?_
  refine cg (sp_assign (od rfl)) ?_
  refine sn fun a w hS => ?_
  refine et ?_
  refine ws ?_
  refine l_start ?_
  refine s_c hS (sg (sp_load ty25 (od rfl))) rfl fun a w hS hM => ?_
  refine s_alloc ziR25_ hS rfl fun a w b_13 hS hM => ?_
  have hS : St _ F0 [Item.box (α := Int × Int × Int × (List (List Int)) × (List S_api_Turn)) 25 b_13 ((0 : Int), (0 : Int), (0 : Int), ([] : List (List Int)), ([] : List S_api_Turn))] _ w0 _ _ := hS
  have hS : St _ F0 [Item.box (α := Int × Int × Int × (List (List Int)) × (List S_api_Turn)) 25 b_13 ((0 : Int), (0 : Int), (0 : Int), ([] : List (List Int)), ([] : List S_api_Turn))] _ w0 _ _ := hS
  refine s_storeB (α := S_api_Roster) (k := 0) (Δ := [(1, isV (α := Int) p1), (2, isV (α := List Int) y_12), (3, isV (α := List (List Int)) p3), (5, isA (α := S_api_Roster) p0), (9, isA (α := S_api_Turn) p4), (11, isV (α := List Int) v_7.1), (14, isV (α := Bool) (v_7.2.1 && (decide (0 < (y_12.length : Int))))), (15, Pr.ptr b_13), (76, isV (α := S_api_Roster) p0)]) ty25 hS rfl ⟨od rfl, od rfl, od rfl, od rfl, od rfl, od rfl, od rfl, od rfl, od rfl, trivial⟩ ⟨fun _ _ _ _ h => h, fun _ _ _ _ h => h, fun _ _ _ _ h => h, fun _ _ _ _ h => h, fun _ _ _ _ h => h, fun _ _ _ _ h => h, fun _ _ _ _ h => h, fun _ _ _ _ h => h, fun _ _ _ _ h => h, trivial⟩ rfl (od rfl) fun w hS hM => ?_
  have hS : St _ F0 [Item.box (α := Int × Int × Int × (List (List Int)) × (List S_api_Turn)) 25 b_13 (p0.1, p0.2.1, p0.2.2.1, p0.2.2.2.1, p0.2.2.2.2)] _ w0 _ _ := hS
  refine l_end ?_
  refine et ?_
  refine ws ?_
  refine l_start ?_
  refine s_c hS (sg (sp_move (od rfl))) rfl fun a w hS hM => ?_
  refine s_c hS (sg (sp_fieldAddrP fo25_3 (od rfl))) rfl fun a w hS hM => ?_
  refine s_storeP (k := 0) (off := 3) (Δ := [(1, isV (α := Int) p1), (2, isV (α := List Int) y_12), (3, isV (α := List (List Int)) p3), (5, isA (α := S_api_Roster) p0), (9, isA (α := S_api_Turn) p4), (11, isV (α := List Int) v_7.1), (14, isV (α := Bool) (v_7.2.1 && (decide (0 < (y_12.length : Int))))), (15, Pr.ptr b_13), (77, isV (α := List (List Int)) p3), (78, Pr.is (.pointer (some ⟨b_13, 3, none⟩)))]) ty22 hS rfl ⟨od rfl, od rfl, od rfl, od rfl, od rfl, od rfl, od rfl, od rfl, od rfl, od rfl, trivial⟩ ⟨fun _ _ _ _ h => h, fun _ _ _ _ h => h, fun _ _ _ _ h => h, fun _ _ _ _ h => h, fun _ _ _ _ h => h, fun _ _ _ _ h => h, fun _ _ _ _ h => h, fun _ _ _ _ h => h, fun _ _ _ _ h => h, fun _ _ _ _ h => h, trivial⟩ (od rfl) (od rfl) sf25__3 fun w hS hM => ?_
  have hS : St _ F0 [Item.box (α := Int × Int × Int × (List (List Int)) × (List S_api_Turn)) 25 b_13 (p0.1, p0.2.1, p0.2.2.1, p3, p0.2.2.2.2)] _ w0 _ _ := hS
  refine l_end ?_
  refine et ?_
  refine ws ?_
  refine ws ?_
  have hS := hS.weak (Δ := [(1, isV (α := Int) p1), (2, isV (α := List Int) y_12), (3, isV (α := List (List Int)) p3), (5, isA (α := S_api_Roster) p0), (9, isA (α := S_api_Turn) p4), (11, isV (α := List Int) v_7.1), (14, isV (α := Bool) (v_7.2.1 && (decide (0 < (y_12.length : Int))))), (15, Pr.ptr b_13), (77, isV (α := List (List Int)) p3), (78, Pr.is (.pointer (some ⟨b_13, 3, none⟩)))]) ⟨od rfl, od rfl, od rfl, od rfl, od rfl, od rfl, od rfl, od rfl, od rfl, od rfl, trivial⟩
  have hS : St _ F0 [Item.box (α := S_api_Roster) 25 b_13 ((p0.1, p0.2.1, p0.2.2.1, p3, p0.2.2.2.2) : S_api_Roster)] _ w0 _ _ := hS
  have hS := st_freezeB 0 15 hS rfl rfl
  obtain ⟨v_14, e_15, h⟩ := bind_some h
  obtain ⟨v_16, e_17, h⟩ := bind_some h
  refine st_reg mixed (by kernel_rfl) hS ?_
  refine cg (sp_load ty25 (od rfl)) ?_
  refine cg (sp_call en33 (f33_ok e_15) ⟨od rfl, trivial⟩) ?_
  refine mv rfl ?_
  refine sc (sgT rfl fun hG => sp_move (od rfl)) ?_
  refine sc (sgT rfl fun hG => sp_len Tryz.underlying22 (odw rfl hG)) ?_
  refine sc (sgT rfl fun hG => sp_fieldAddr fd25_3 (od rfl)) ?_
  refine sc (sgT rfl fun hG => sp_load ty22 (odw rfl hG)) ?_
  refine sc (sgT rfl fun hG => sp_len Tryz.underlying22 (odw rfl hG)) ?_
  refine sc (sgT rfl fun hG => sp_eql (odw rfl hG) (odw rfl hG)) ?_
  refine cg (sp_pickAnd (od rfl) fun hg => odw rfl hg) ?_
  refine mv rfl ?_
  refine sc (sgT rfl fun hG => sp_move (od rfl)) ?_
  refine sc (sgT rfl fun hG => sp_fieldAddr fd25_3 (od rfl)) ?_
  refine sc (sgT rfl fun hG => sp_load ty22 (odw rfl hG)) ?_
  refine sc (sgT rfl fun hG => sp_call en60 (f60_ok (guard_some e_17 hG)) ⟨odw rfl hG, odw rfl hG, trivial⟩) ?_
  refine cg (sp_pickAnd (od rfl) fun hg => odw rfl hg) ?_
  refine sn fun a w hS => ?_
  refine et ?_
  refine st_cond hS rfl (fun hb => ?_) (fun hb => ?_)
  · have h := ite_t hb h
    refine ws ?_
    refine ws ?_
    obtain ⟨v_18, e_19, h⟩ := bind_some h
    refine st_reg mixed (by kernel_rfl) hS ?_
    refine mv rfl ?_
    refine mv rfl ?_
    refine sc (sgT rfl fun hG => sp_load ty25 (od rfl)) ?_
    refine sc (sgT rfl fun hG => sp_move (od rfl)) ?_
    refine sc (sgT rfl fun hG => sp_move (od rfl)) ?_
    refine sc (sgT rfl fun hG => sp_call en35 (f35_ok (guard_some e_19 hG)) ⟨odw rfl hG, odw rfl hG, odw rfl hG, trivial⟩) ?_
    refine sc (sgT rfl fun hG => sp_neq (odw rfl hG) (odi)) ?_
    refine cg (sp_pickAnd (od rfl) fun hg => odw rfl hg) ?_
    refine sn fun a w hS => ?_
    refine et ?_
    refine st_cond hS rfl (fun hb => ?_) (fun hb => ?_)
    · have h := ite_t hb h
      refine ws ?_
      refine st_reg mixed (by kernel_rfl) hS ?_
      refine cg (sp_assign (odb)) ?_
      refine sn fun a w hS => ?_
      refine et ?_
      refine wp_ret ?_
      refine exit_thenR ?_
      refine exit_thenR ?_
      cases h
      exact st_ret hS (run_results1 Tryz.results12 a w) (hS.get rfl)
    have h := ite_f hb h
    refine wp_skip ?_
    refine et ?_
    refine ws ?_
    obtain ⟨v_20, e_21, h⟩ := bind_some h
    refine st_reg mixed (by kernel_rfl) hS ?_
    refine cg (sp_load ty25 (od rfl)) ?_
    refine mv rfl ?_
    refine mv rfl ?_
    refine cg (sp_call en29 (f29_ok e_21) ⟨od rfl, od rfl, od rfl, trivial⟩) ?_
    refine mv rfl ?_
    refine cg (sp_extract (od rfl) rfl) ?_
    refine cg (sp_extract (od rfl) rfl) ?_
    refine cg (sp_extract (od rfl) rfl) ?_
    refine cg (sp_assign (od rfl)) ?_
    refine cg (sp_assign (od rfl)) ?_
    refine cg (sp_assign (od rfl)) ?_
    refine sn fun a w hS => ?_
    refine et ?_
    refine ws ?_
    obtain ⟨v_22, e_23, h⟩ := bind_some h
    refine st_reg mixed (by kernel_rfl) hS ?_
    refine cg (sp_load ty25 (od rfl)) ?_
    refine mv rfl ?_
    refine mv rfl ?_
    refine cg (sp_call en29 (f29_ok e_23) ⟨od rfl, od rfl, od rfl, trivial⟩) ?_
    refine mv rfl ?_
    refine cg (sp_extract (od rfl) rfl) ?_
    refine cg (sp_extract (od rfl) rfl) ?_
    refine cg (sp_extract (od rfl) rfl) ?_
    refine cg (sp_assign (od rfl)) ?_
    refine cg (sp_assign (od rfl)) ?_
    refine cg (sp_assign (od rfl)) ?_
    refine sn fun a w hS => ?_
    refine et ?_
    refine ws ?_
    refine st_reg mixed (by kernel_rfl) hS ?_
    refine mv rfl ?_
    refine mv rfl ?_
    refine cg (sp_neq (od rfl) (od rfl)) ?_
    refine mv rfl ?_
    refine sc (sgF rfl fun hG => sp_move (od rfl)) ?_
    refine sc (sgF rfl fun hG => sp_eql (odw rfl hG) (odi)) ?_
    refine sc (sgF rfl fun hG => sp_move (odw rfl hG)) ?_
    refine sc (sgwT rfl fun hG => sp_move (od rfl)) ?_
    refine sc (sgwT rfl fun hG => sp_not (odw rfl hG)) ?_
    refine sc (sgF rfl fun hG => sp_pickAnd (odw rfl hG) fun hg => odw rfl (and_mk hG hg)) ?_
    refine sc (sgF rfl fun hG => sp_move (odw rfl hG)) ?_
    refine sc (sgwT rfl fun hG => sp_move (od rfl)) ?_
    refine sc (sgF rfl fun hG => sp_pickAnd (odw rfl hG) fun hg => odw rfl (and_mk hG hg)) ?_
    refine cg (sp_pickOr (od rfl) fun hg => odw rfl (not_t hg)) ?_
    refine sn fun a w hS => ?_
    refine et ?_
    refine st_cond hS rfl (fun hb => ?_) (fun hb => ?_)
    · have h := ite_t hb h
      refine ws ?_
      refine st_reg mixed (by kernel_rfl) hS ?_
      refine cg (sp_assign (odb)) ?_
      refine sn fun a w hS => ?_
      refine et ?_
      refine wp_ret ?_
      refine exit_thenR ?_
      cases h
      exact st_ret hS (run_results1 Tryz.results12 a w) (hS.get rfl)
    have h := ite_f hb h
    refine wp_skip ?_
    refine et ?_
    refine ws ?_
    refine ws ?_
    refine st_reg mixed (by kernel_rfl) hS ?_
    refine mv rfl ?_
    refine cg (sp_not (od rfl)) ?_
    refine sn fun a w hS => ?_
    refine et ?_
    refine st_cond hS rfl (fun hb => ?_) (fun hb => ?_)
    · have h := ite_t hb h
      refine ws ?_
      refine st_reg mixed (by kernel_rfl) hS ?_
      refine cg (sp_assign (odb)) ?_
      refine sn fun a w hS => ?_
      refine et ?_
      refine wp_ret ?_
      refine exit_thenR ?_
      cases h
      exact st_ret hS (run_results1 Tryz.results12 a w) (hS.get rfl)
    have h := ite_f hb h
    refine wp_skip ?_
    refine et ?_
    refine ws ?_
    refine l_start ?_
    refine s_c hS (sg (sp_load ty25 (od rfl))) rfl fun a w hS hM => ?_
    refine s_alloc ziR25_ hS rfl fun a w b_24 hS hM => ?_
    have hS : St _ F0 [Item.box (α := Int × Int × Int × (List (List Int)) × (List S_api_Turn)) 25 b_24 ((0 : Int), (0 : Int), (0 : Int), ([] : List (List Int)), ([] : List S_api_Turn))] _ w0 _ _ := hS
    have hS : St _ F0 [Item.box (α := Int × Int × Int × (List (List Int)) × (List S_api_Turn)) 25 b_24 ((0 : Int), (0 : Int), (0 : Int), ([] : List (List Int)), ([] : List S_api_Turn))] _ w0 _ _ := hS
    refine s_storeB (α := S_api_Roster) (k := 0) (Δ := [(1, isV (α := Int) p1), (2, isV (α := List Int) y_12), (5, isA (α := S_api_Roster) p0), (9, isA (α := S_api_Turn) p4), (11, isV (α := List Int) v_7.1), (22, Pr.ptr b_24), (135, isV (α := S_api_Roster) p0)]) ty25 hS rfl ⟨od rfl, od rfl, od rfl, od rfl, od rfl, od rfl, od rfl, trivial⟩ ⟨fun _ _ _ _ h => h, fun _ _ _ _ h => h, fun _ _ _ _ h => h, fun _ _ _ _ h => h, fun _ _ _ _ h => h, fun _ _ _ _ h => h, fun _ _ _ _ h => h, trivial⟩ rfl (od rfl) fun w hS hM => ?_
    have hS : St _ F0 [Item.box (α := Int × Int × Int × (List (List Int)) × (List S_api_Turn)) 25 b_24 (p0.1, p0.2.1, p0.2.2.1, p0.2.2.2.1, p0.2.2.2.2)] _ w0 _ _ := hS
    refine l_end ?_
    refine et ?_
    refine ws ?_
    obtain ⟨m_25, e_26, h⟩ := bind_some h
    obtain ⟨z_30, e_31, h⟩ := bind_some h
    refine wp_mono (Q := fun e a w => e = Exit.normal ∧ ∃ u_32 : Value, St 230 F0 [Item.box (α := Int × Int × Int × (List (List Int)) × Raw) 25 b_24 (p0.1, p0.2.1, p0.2.2.1, p0.2.2.2.1, (Raw.mk u_32)), Item.sl (α := S_api_Turn) 45 u_32 z_30] [(1, isV (α := Int) p1), (2, isV (α := List Int) y_12), (5, isA (α := S_api_Roster) p0), (11, isV (α := List Int) v_7.1), (22, Pr.ptr b_24)] w0 a w) ?_ ?_
    · refine st_floatA mixed [1, 1, 2, 1, 2, 2, 2, 2] [2, 4, 5, 6, 7] 5 (by kernel_rfl) (by kernel_rfl) (by kernel_rfl) rfl hS ?_
      refine sfF (sy (sy_fieldAddr fd25_4 (od rfl))) ?_
      refine sfF (sy (sy_load ty23 (od rfl))) ?_
      refine sfT ?_
      refine sfF (sy (sy_load ty45 (od rfl))) ?_
      refine sfT ?_
      refine sfT ?_
      refine sfT ?_
      refine sfT ?_
      refine sfN fun c a w hS hC => ?_
      refine anyT_of [2, 4] (by kernel_rfl) ?_
      refine allR_cons rfl ?_ ?_
      · skip
        refine s_callI en61 (f61_ok e_26) hS ⟨od rfl, trivial⟩ rfl fun a w u_27 x_28 hS hM => ?_
        have hS : St _ F0 [Item.box (α := Int × Int × Int × (List (List Int)) × (List S_api_Turn)) 25 b_24 (p0.1, p0.2.1, p0.2.2.1, p0.2.2.2.1, p0.2.2.2.2), Item.sl (α := S_api_Turn) 45 u_27 m_25] _ w0 _ _ := hS
        have hC := Mem.le_trans hC hM
        refine s_nextA hC ?_
        refine anyT_of [4] (by kernel_rfl) ?_
        refine allR_cons rfl ?_ ?_
        · skip
          refine s_build [.tmp 139] ([p4] : List S_api_Turn) sl23 ze45 rfl rfl rfl rfl hS ⟨od rfl, trivial⟩ rfl fun a w u_29 hS hM => ?_
          have hS : St _ F0 [Item.box (α := Int × Int × Int × (List (List Int)) × (List S_api_Turn)) 25 b_24 (p0.1, p0.2.1, p0.2.2.1, p0.2.2.2.1, p0.2.2.2.2), Item.sl (α := S_api_Turn) 45 u_27 m_25, Item.sl (α := S_api_Turn) 45 u_29 ([p4] : List S_api_Turn)] _ w0 _ _ := hS
          have hC := Mem.le_trans hC hM
          refine s_nextA hC ?_
          refine anyT_of [5] (by kernel_rfl) ?_
          refine allR_cons rfl ?_ ?_
          · skip
            have hC := le_erase 2 hC
            have hS := st_freeze 2 140 hS rfl rfl
            refine s_append (k := 1) (Δ := [(1, isV (α := Int) p1), (2, isV (α := List Int) y_12), (5, isA (α := S_api_Roster) p0), (11, isV (α := List Int) v_7.1), (22, Pr.ptr b_24), (138, Pr.is u_27), (140, isV (α := List S_api_Turn) ([p4] : List S_api_Turn))]) sl23 ze45 hS rfl ⟨od rfl, od rfl, od rfl, od rfl, od rfl, od rfl, od rfl, trivial⟩ ⟨fun _ _ _ _ h => h, fun _ _ _ _ h => h, fun _ _ _ _ h => h, fun _ _ _ _ h => h, fun _ _ _ _ h => h, fun _ _ _ _ h => h, fun _ _ _ _ h => h, trivial⟩ (od rfl) (od rfl) e_31 rfl fun a w u_32 hS hM => ?_
            have hS : St _ F0 [Item.box (α := Int × Int × Int × (List (List Int)) × (List S_api_Turn)) 25 b_24 (p0.1, p0.2.1, p0.2.2.1, p0.2.2.2.1, p0.2.2.2.2), Item.sl (α := S_api_Turn) 45 u_32 z_30] _ w0 _ _ := hS
            have hC := Mem.le_trans hC hM
            refine s_nextA hC ?_
            refine anyT_of [6] (by kernel_rfl) ?_
            refine allR_cons rfl ?_ ?_
            · skip
              refine s_c hS (sg (sp_fieldAddrP fo25_4 (od rfl))) rfl fun a w hS hM => ?_
              have hC := Mem.le_trans hC hM
              refine s_nextA hC ?_
              refine anyT_of [7] (by kernel_rfl) ?_
              refine allR_cons rfl ?_ ?_
              · skip
                obtain ⟨v_33, hS⟩ := st_toraw (α := Int × Int × Int × (List (List Int)) × (List S_api_Turn)) 0 hS rfl (ToR.snd (ToR.snd (ToR.snd (ToR.snd ToR.self))))
                refine s_storeP (k := 0) (off := 4) (Δ := [(1, isV (α := Int) p1), (2, isV (α := List Int) y_12), (5, isA (α := S_api_Roster) p0), (11, isV (α := List Int) v_7.1), (22, Pr.ptr b_24), (141, Pr.is u_32), (142, Pr.is (.pointer (some ⟨b_24, 4, none⟩)))]) tyR23_w hS rfl ⟨od rfl, od rfl, od rfl, od rfl, od rfl, od rfl, od rfl, trivial⟩ ⟨fun _ _ _ _ h => h, fun _ _ _ _ h => h, fun _ _ _ _ h => h, fun _ _ _ _ h => h, fun _ _ _ _ h => h, fun _ _ _ _ h => h, fun _ _ _ _ h => h, trivial⟩ (od rfl) (odRaw (od rfl) (hS.one (k := 1) rfl)) sf25_4_4 fun w hS hM => ?_
                have hS : St _ F0 [Item.box (α := Int × Int × Int × (List (List Int)) × Raw) 25 b_24 (p0.1, p0.2.1, p0.2.2.1, p0.2.2.2.1, (Raw.mk u_32)), Item.sl (α := S_api_Turn) 45 u_32 z_30] _ w0 _ _ := hS
                have hC := Mem.le_trans hC hM
                refine s_nextA hC ?_
                refine anyT_done ?_
                exact ⟨rfl, u_32, hS.weak ⟨od rfl, od rfl, od rfl, od rfl, od rfl, trivial⟩⟩
              exact allR_nil
            exact allR_nil
          exact allR_nil
        exact allR_nil
      refine allR_cons rfl ?_ ?_
      · skip
        refine s_build [.tmp 139] ([p4] : List S_api_Turn) sl23 ze45 rfl rfl rfl rfl hS ⟨od rfl, trivial⟩ rfl fun a w u_29 hS hM => ?_
        have hS : St _ F0 [Item.box (α := Int × Int × Int × (List (List Int)) × (List S_api_Turn)) 25 b_24 (p0.1, p0.2.1, p0.2.2.1, p0.2.2.2.1, p0.2.2.2.2), Item.sl (α := S_api_Turn) 45 u_29 ([p4] : List S_api_Turn)] _ w0 _ _ := hS
        have hC := Mem.le_trans hC hM
        refine s_nextA hC ?_
        refine anyT_of [2] (by kernel_rfl) ?_
        refine allR_cons rfl ?_ ?_
        · skip
          refine s_callI en61 (f61_ok e_26) hS ⟨od rfl, trivial⟩ rfl fun a w u_27 x_28 hS hM => ?_
          have hS : St _ F0 [Item.box (α := Int × Int × Int × (List (List Int)) × (List S_api_Turn)) 25 b_24 (p0.1, p0.2.1, p0.2.2.1, p0.2.2.2.1, p0.2.2.2.2), Item.sl (α := S_api_Turn) 45 u_29 ([p4] : List S_api_Turn), Item.sl (α := S_api_Turn) 45 u_27 m_25] _ w0 _ _ := hS
          have hC := Mem.le_trans hC hM
          refine s_nextA hC ?_
          refine anyT_of [5] (by kernel_rfl) ?_
          refine allR_cons rfl ?_ ?_
          · skip
            have hC := le_erase 1 hC
            have hS := st_freeze 1 140 hS rfl rfl
            refine s_append (k := 1) (Δ := [(1, isV (α := Int) p1), (2, isV (α := List Int) y_12), (5, isA (α := S_api_Roster) p0), (11, isV (α := List Int) v_7.1), (22, Pr.ptr b_24), (138, Pr.is u_27), (140, isV (α := List S_api_Turn) ([p4] : List S_api_Turn))]) sl23 ze45 hS rfl ⟨od rfl, od rfl, od rfl, od rfl, od rfl, od rfl, od rfl, trivial⟩ ⟨fun _ _ _ _ h => h, fun _ _ _ _ h => h, fun _ _ _ _ h => h, fun _ _ _ _ h => h, fun _ _ _ _ h => h, fun _ _ _ _ h => h, fun _ _ _ _ h => h, trivial⟩ (od rfl) (od rfl) e_31 rfl fun a w u_32 hS hM => ?_
            have hS : St _ F0 [Item.box (α := Int × Int × Int × (List (List Int)) × (List S_api_Turn)) 25 b_24 (p0.1, p0.2.1, p0.2.2.1, p0.2.2.2.1, p0.2.2.2.2), Item.sl (α := S_api_Turn) 45 u_32 z_30] _ w0 _ _ := hS
            have hC := Mem.le_trans hC hM
            refine s_nextA hC ?_
            refine anyT_of [6] (by kernel_rfl) ?_
            refine allR_cons rfl ?_ ?_
            · skip
              refine s_c hS (sg (sp_fieldAddrP fo25_4 (od rfl))) rfl fun a w hS hM => ?_
              have hC := Mem.le_trans hC hM
              refine s_nextA hC ?_
              refine anyT_of [7] (by kernel_rfl) ?_
              refine allR_cons rfl ?_ ?_
              · skip
                obtain ⟨v_33, hS⟩ := st_toraw (α := Int × Int × Int × (List (List Int)) × (List S_api_Turn)) 0 hS rfl (ToR.snd (ToR.snd (ToR.snd (ToR.snd ToR.self))))
                refine s_storeP (k := 0) (off := 4) (Δ := [(1, isV (α := Int) p1), (2, isV (α := List Int) y_12), (5, isA (α := S_api_Roster) p0), (11, isV (α := List Int) v_7.1), (22, Pr.ptr b_24), (141, Pr.is u_32), (142, Pr.is (.pointer (some ⟨b_24, 4, none⟩)))]) tyR23_w hS rfl ⟨od rfl, od rfl, od rfl, od rfl, od rfl, od rfl, od rfl, trivial⟩ ⟨fun _ _ _ _ h => h, fun _ _ _ _ h => h, fun _ _ _ _ h => h, fun _ _ _ _ h => h, fun _ _ _ _ h => h, fun _ _ _ _ h => h, fun _ _ _ _ h => h, trivial⟩ (od rfl) (odRaw (od rfl) (hS.one (k := 1) rfl)) sf25_4_4 fun w hS hM => ?_
                have hS : St _ F0 [Item.box (α := Int × Int × Int × (List (List Int)) × Raw) 25 b_24 (p0.1, p0.2.1, p0.2.2.1, p0.2.2.2.1, (Raw.mk u_32)), Item.sl (α := S_api_Turn) 45 u_32 z_30] _ w0 _ _ := hS
                have hC := Mem.le_trans hC hM
                refine s_nextA hC ?_
                refine anyT_done ?_
                exact ⟨rfl, u_32, hS.weak ⟨od rfl, od rfl, od rfl, od rfl, od rfl, trivial⟩⟩
              exact allR_nil
            exact allR_nil
          exact allR_nil
        exact allR_nil
      exact allR_nil
    rintro e a w ⟨rfl, u_32, hS⟩
    refine et ?_
    refine ws ?_
    refine ws ?_
    have hS := st_unraw 1 0 hS rfl rfl (UnR.snd (UnR.snd (UnR.snd (UnR.snd UnR.self))))
    have hS : St _ F0 [Item.box (α := S_api_Roster) 25 b_24 ((p0.1, p0.2.1, p0.2.2.1, p0.2.2.2.1, z_30) : S_api_Roster)] _ w0 _ _ := hS
    have hS := st_freezeB 0 22 hS rfl rfl
    obtain ⟨v_34, e_35, h⟩ := bind_some h
    refine st_reg mixed (by kernel_rfl) hS ?_
    refine cg (sp_load ty25 (od rfl)) ?_
    refine cg (sp_call en33 (f33_ok e_35) ⟨od rfl, trivial⟩) ?_
    refine sn fun a w hS => ?_
    refine et ?_
    refine st_cond hS rfl (fun hb => ?_) (fun hb => ?_)
    · have h := ite_t hb h
      refine ws ?_
      obtain ⟨v_36, e_37, h⟩ := bind_some h
      refine st_reg mixed (by kernel_rfl) hS ?_
      refine cg (sp_load ty25 (od rfl)) ?_
      refine mv rfl ?_
      refine cg (sp_call en53 (f53_ok e_37) ⟨od rfl, od rfl, trivial⟩) ?_
      refine mv rfl ?_
      refine cg (sp_extract (od rfl) rfl) ?_
      refine cg (sp_extract (od rfl) rfl) ?_
      refine cg (sp_assign (od rfl)) ?_
      refine cg (sp_assign (od rfl)) ?_
      refine sn fun a w hS => ?_
      refine et ?_
      refine ws ?_
      obtain ⟨v_38, e_39, h⟩ := bind_some h
      refine st_reg mixed (by kernel_rfl) hS ?_
      refine cg (sp_load ty25 (od rfl)) ?_
      refine mv rfl ?_
      refine cg (sp_call en34 (f34_ok e_39) ⟨od rfl, od rfl, trivial⟩) ?_
      refine mv rfl ?_
      refine cg (sp_extract (od rfl) rfl) ?_
      refine cg (sp_extract (od rfl) rfl) ?_
      refine cg (sp_extract (od rfl) rfl) ?_
      refine cg (sp_assign (od rfl)) ?_
      refine cg (sp_assign (od rfl)) ?_
      refine cg (sp_assign (od rfl)) ?_
      refine sn fun a w hS => ?_
      refine et ?_
      refine ws ?_
      obtain ⟨v_40, e_41, h⟩ := bind_some h
      refine st_reg mixed (by kernel_rfl) hS ?_
      refine cg (sp_load ty25 (od rfl)) ?_
      refine mv rfl ?_
      refine cg (sp_call en53 (f53_ok e_41) ⟨od rfl, od rfl, trivial⟩) ?_
      refine mv rfl ?_
      refine cg (sp_extract (od rfl) rfl) ?_
      refine cg (sp_extract (od rfl) rfl) ?_
      refine cg (sp_assign (od rfl)) ?_
      refine cg (sp_assign (od rfl)) ?_
      refine sn fun a w hS => ?_
      refine et ?_
      refine ws ?_
      refine st_reg mixed (by kernel_rfl) hS ?_
      refine mv rfl ?_
      refine cg (sp_neq (od rfl) (odi)) ?_
      refine mv rfl ?_
      refine sc (sgF rfl fun hG => sp_move (od rfl)) ?_
      refine sc (sgF rfl fun hG => sp_neq (odw rfl hG) (odi)) ?_
      refine cg (sp_pickOr (od rfl) fun hg => odw rfl (not_t hg)) ?_
      refine mv rfl ?_
      refine sc (sgF rfl fun hG => sp_move (od rfl)) ?_
      refine sc (sgF rfl fun hG => sp_neq (odw rfl hG) (odi)) ?_
      refine cg (sp_pickOr (od rfl) fun hg => odw rfl (not_t hg)) ?_
      refine mv rfl ?_
      refine sc (sgF rfl fun hG => sp_move (od rfl)) ?_
      refine sc (sgF rfl fun hG => sp_not (odw rfl hG)) ?_
      refine cg (sp_pickOr (od rfl) fun hg => odw rfl (not_t hg)) ?_
      refine mv rfl ?_
      refine sc (sgF rfl fun hG => sp_move (od rfl)) ?_
      refine sc (sgF rfl fun hG => sp_move (od rfl)) ?_
      refine sc (sgF rfl fun hG => sp_gtr (odw rfl hG) (odw rfl hG)) ?_
      refine cg (sp_pickOr (od rfl) fun hg => odw rfl (not_t hg)) ?_
      refine sn fun a w hS => ?_
      refine et ?_
      refine st_cond hS rfl (fun hb => ?_) (fun hb => ?_)
      · have h := ite_t hb h
        refine ws ?_
        refine st_reg mixed (by kernel_rfl) hS ?_
        refine cg (sp_assign (odb)) ?_
        refine sn fun a w hS => ?_
        refine et ?_
        refine wp_ret ?_
        refine exit_thenR ?_
        cases h
        exact st_ret hS (run_results1 Tryz.results12 a w) (hS.get rfl)
      have h := ite_f hb h
      refine wp_skip ?_
      refine et ?_
      refine ws ?_
      obtain ⟨v_42, e_43, h⟩ := bind_some h
      refine st_reg mixed (by kernel_rfl) hS ?_
      refine cg (sp_load ty25 (od rfl)) ?_
      refine mv rfl ?_
      refine mv rfl ?_
      refine cg (sp_call en57 (f57_ok e_43) ⟨od rfl, od rfl, od rfl, trivial⟩) ?_
      refine mv rfl ?_
      refine cg (sp_extract (od rfl) rfl) ?_
      refine cg (sp_extract (od rfl) rfl) ?_
      refine cg (sp_assign (od rfl)) ?_
      refine cg (sp_assign (od rfl)) ?_
      refine sn fun a w hS => ?_
      refine et ?_
      refine ws ?_
      refine ws ?_
      refine st_reg mixed (by kernel_rfl) hS ?_
      refine mv rfl ?_
      refine cg (sp_neq (od rfl) (odi)) ?_
      refine mv rfl ?_
      refine sc (sgF rfl fun hG => sp_move (od rfl)) ?_
      refine sc (sgF rfl fun hG => sp_lss (odw rfl hG) (odi)) ?_
      refine cg (sp_pickOr (od rfl) fun hg => odw rfl (not_t hg)) ?_
      refine mv rfl ?_
      refine sc (sgF rfl fun hG => sp_move (od rfl)) ?_
      refine sc (sgF rfl fun hG => sp_gtr (odw rfl hG) (odi)) ?_
      refine cg (sp_pickOr (od rfl) fun hg => odw rfl (not_t hg)) ?_
      refine sn fun a w hS => ?_
      refine et ?_
      refine st_cond hS rfl (fun hb => ?_) (fun hb => ?_)
      · have h := ite_t hb h
        refine ws ?_
        refine st_reg mixed (by kernel_rfl) hS ?_
        refine cg (sp_assign (odb)) ?_
        refine sn fun a w hS => ?_
        refine et ?_
        refine wp_ret ?_
        refine exit_thenR ?_
        cases h
        exact st_ret hS (run_results1 Tryz.results12 a w) (hS.get rfl)
      have h := ite_f hb h
      refine wp_skip ?_
      refine et ?_
      refine ws ?_
      obtain ⟨v_44, e_45, h⟩ := bind_some h
      refine l_start ?_
      refine s_c hS (sg (sp_load ty25 (od rfl))) rfl fun a w hS hM => ?_
      refine s_c hS (sg (sp_move (od rfl))) rfl fun a w hS hM => ?_
      refine s_c hS (sg (sp_call en62 (f62_ok e_45) ⟨od rfl, od rfl, trivial⟩)) rfl fun a w hS hM => ?_
      refine s_allocStore ze25 hS (od rfl) (fun k hk => by cases hk; rfl) rfl fun a w hS hM => ?_
      refine l_end ?_
      refine et ?_
      refine ws ?_
      refine ws ?_
      obtain ⟨v_46, e_47, h⟩ := bind_some h
      obtain ⟨v_48, e_49, h⟩ := bind_some h
      refine st_reg mixed (by kernel_rfl) hS ?_
      refine cg (sp_load ty25 (od rfl)) ?_
      refine cg (sp_call en33 (f33_ok e_47) ⟨od rfl, trivial⟩) ?_
      refine mv rfl ?_
      refine sc (sgT rfl fun hG => sp_load ty25 (od rfl)) ?_
      refine sc (sgT rfl fun hG => sp_move (od rfl)) ?_
      refine sc (sgT rfl fun hG => sp_move (od rfl)) ?_
      refine sc (sgT rfl fun hG => sp_call en35 (f35_ok (guard_some e_49 hG)) ⟨odw rfl hG, odw rfl hG, odw rfl hG, trivial⟩) ?_
      refine sc (sgT rfl fun hG => sp_neq (odw rfl hG) (odi)) ?_
      refine cg (sp_pickAnd (od rfl) fun hg => odw rfl hg) ?_
      refine sn fun a w hS => ?_
      refine et ?_
      refine st_cond hS rfl (fun hb => ?_) (fun hb => ?_)
      · have h := ite_t hb h
        refine ws ?_
        refine st_reg mixed (by kernel_rfl) hS ?_
        refine cg (sp_assign (odb)) ?_
        refine sn fun a w hS => ?_
        refine et ?_
        refine wp_ret ?_
        refine exit_thenR ?_
        cases h
        exact st_ret hS (run_results1 Tryz.results12 a w) (hS.get rfl)
      have h := ite_f hb h
      refine wp_skip ?_
      refine et ?_
      refine ws ?_
      obtain ⟨v_50, e_51, h⟩ := bind_some h
      refine l_start ?_
      refine s_c hS (sg (sp_load ty25 (od rfl))) rfl fun a w hS hM => ?_
      refine s_c hS (sg (sp_move (od rfl))) rfl fun a w hS hM => ?_
      refine s_c hS (sg (sp_add (od rfl) (odi))) rfl fun a w hS hM => ?_
      refine s_c hS (sg (sp_call en62 (f62_ok e_51) ⟨od rfl, od rfl, trivial⟩)) rfl fun a w hS hM => ?_
      refine s_allocStore ze25 hS (od rfl) (fun k hk => by cases hk; rfl) rfl fun a w hS hM => ?_
      refine l_end ?_
      refine et ?_
      refine ws ?_
      obtain ⟨v_52, e_53, h⟩ := bind_some h
      obtain ⟨v_54, e_55, h⟩ := bind_some h
      refine st_reg mixed (by kernel_rfl) hS ?_
      refine mv rfl ?_
      refine cg (sp_eql (od rfl) (odi)) ?_
      refine mv rfl ?_
      refine sc (sgF rfl fun hG => sp_load ty25 (od rfl)) ?_
      refine sc (sgF rfl fun hG => sp_call en33 (f33_ok (guard_some e_53 hG)) ⟨odw rfl hG, trivial⟩) ?_
      refine sc (sgF rfl fun hG => sp_not (odw rfl hG)) ?_
      refine cg (sp_pickOr (od rfl) fun hg => odw rfl (not_t hg)) ?_
      refine mv rfl ?_
      refine sc (sgF rfl fun hG => sp_load ty25 (od rfl)) ?_
      refine sc (sgF rfl fun hG => sp_move (od rfl)) ?_
      refine sc (sgF rfl fun hG => sp_move (od rfl)) ?_
      refine sc (sgF rfl fun hG => sp_call en35 (f35_ok (guard_some e_55 hG)) ⟨odw rfl hG, odw rfl hG, odw rfl hG, trivial⟩) ?_
      refine sc (sgF rfl fun hG => sp_eql (odw rfl hG) (odi)) ?_
      refine cg (sp_pickOr (od rfl) fun hg => odw rfl (not_t hg)) ?_
      refine cg (sp_assign (od rfl)) ?_
      refine sn fun a w hS => ?_
      refine et ?_
      refine wp_ret ?_
      cases h
      exact st_ret hS (run_results1 Tryz.results12 a w) (hS.get rfl)
    have h := ite_f hb h
    refine wp_skip ?_
    refine et ?_
    refine ws ?_
    obtain ⟨v_56, e_57, h⟩ := bind_some h
    refine st_reg mixed (by kernel_rfl) hS ?_
    refine cg (sp_load ty25 (od rfl)) ?_
    refine mv rfl ?_
    refine mv rfl ?_
    refine cg (sp_call en57 (f57_ok e_57) ⟨od rfl, od rfl, od rfl, trivial⟩) ?_
    refine mv rfl ?_
    refine cg (sp_extract (od rfl) rfl) ?_
    refine cg (sp_extract (od rfl) rfl) ?_
    refine cg (sp_assign (od rfl)) ?_
    refine cg (sp_assign (od rfl)) ?_
    refine sn fun a w hS => ?_
    refine et ?_
    refine ws ?_
    refine ws ?_
    refine st_reg mixed (by kernel_rfl) hS ?_
    refine mv rfl ?_
    refine cg (sp_neq (od rfl) (odi)) ?_
    refine mv rfl ?_
    refine sc (sgF rfl fun hG => sp_move (od rfl)) ?_
    refine sc (sgF rfl fun hG => sp_lss (odw rfl hG) (odi)) ?_
    refine cg (sp_pickOr (od rfl) fun hg => odw rfl (not_t hg)) ?_
    refine mv rfl ?_
    refine sc (sgF rfl fun hG => sp_move (od rfl)) ?_
    refine sc (sgF rfl fun hG => sp_gtr (odw rfl hG) (odi)) ?_
    refine cg (sp_pickOr (od rfl) fun hg => odw rfl (not_t hg)) ?_
    refine sn fun a w hS => ?_
    refine et ?_
    refine st_cond hS rfl (fun hb => ?_) (fun hb => ?_)
    · have h := ite_t hb h
      refine ws ?_
      refine st_reg mixed (by kernel_rfl) hS ?_
      refine cg (sp_assign (odb)) ?_
      refine sn fun a w hS => ?_
      refine et ?_
      refine wp_ret ?_
      refine exit_thenR ?_
      cases h
      exact st_ret hS (run_results1 Tryz.results12 a w) (hS.get rfl)
    have h := ite_f hb h
    refine wp_skip ?_
    refine et ?_
    refine ws ?_
    obtain ⟨v_58, e_59, h⟩ := bind_some h
    refine l_start ?_
    refine s_c hS (sg (sp_load ty25 (od rfl))) rfl fun a w hS hM => ?_
    refine s_c hS (sg (sp_move (od rfl))) rfl fun a w hS hM => ?_
    refine s_c hS (sg (sp_call en62 (f62_ok e_59) ⟨od rfl, od rfl, trivial⟩)) rfl fun a w hS hM => ?_
    refine s_allocStore ze25 hS (od rfl) (fun k hk => by cases hk; rfl) rfl fun a w hS hM => ?_
    refine l_end ?_
    refine et ?_
    refine ws ?_
    refine ws ?_
    obtain ⟨v_60, e_61, h⟩ := bind_some h
    obtain ⟨v_62, e_63, h⟩ := bind_some h
    refine st_reg mixed (by kernel_rfl) hS ?_
    refine cg (sp_load ty25 (od rfl)) ?_
    refine cg (sp_call en33 (f33_ok e_61) ⟨od rfl, trivial⟩) ?_
    refine mv rfl ?_
    refine sc (sgT rfl fun hG => sp_load ty25 (od rfl)) ?_
    refine sc (sgT rfl fun hG => sp_move (od rfl)) ?_
    refine sc (sgT rfl fun hG => sp_move (od rfl)) ?_
    refine sc (sgT rfl fun hG => sp_call en35 (f35_ok (guard_some e_63 hG)) ⟨odw rfl hG, odw rfl hG, odw rfl hG, trivial⟩) ?_
    refine sc (sgT rfl fun hG => sp_neq (odw rfl hG) (odi)) ?_
    refine cg (sp_pickAnd (od rfl) fun hg => odw rfl hg) ?_
    refine sn fun a w hS => ?_
    refine et ?_
    refine st_cond hS rfl (fun hb => ?_) (fun hb => ?_)
    · have h := ite_t hb h
      refine ws ?_
      refine st_reg mixed (by kernel_rfl) hS ?_
      refine cg (sp_assign (odb)) ?_
      refine sn fun a w hS => ?_
      refine et ?_
      refine wp_ret ?_
      refine exit_thenR ?_
      cases h
      exact st_ret hS (run_results1 Tryz.results12 a w) (hS.get rfl)
    have h := ite_f hb h
    refine wp_skip ?_
    refine et ?_
    refine ws ?_
    obtain ⟨v_64, e_65, h⟩ := bind_some h
    refine l_start ?_
    refine s_c hS (sg (sp_load ty25 (od rfl))) rfl fun a w hS hM => ?_
    refine s_c hS (sg (sp_move (od rfl))) rfl fun a w hS hM => ?_
    refine s_c hS (sg (sp_add (od rfl) (odi))) rfl fun a w hS hM => ?_
    refine s_c hS (sg (sp_call en62 (f62_ok e_65) ⟨od rfl, od rfl, trivial⟩)) rfl fun a w hS hM => ?_
    refine s_allocStore ze25 hS (od rfl) (fun k hk => by cases hk; rfl) rfl fun a w hS hM => ?_
    refine l_end ?_
    refine et ?_
    refine ws ?_
    obtain ⟨v_66, e_67, h⟩ := bind_some h
    obtain ⟨v_68, e_69, h⟩ := bind_some h
    refine st_reg mixed (by kernel_rfl) hS ?_
    refine mv rfl ?_
    refine cg (sp_eql (od rfl) (odi)) ?_
    refine mv rfl ?_
    refine sc (sgF rfl fun hG => sp_load ty25 (od rfl)) ?_
    refine sc (sgF rfl fun hG => sp_call en33 (f33_ok (guard_some e_67 hG)) ⟨odw rfl hG, trivial⟩) ?_
    refine sc (sgF rfl fun hG => sp_not (odw rfl hG)) ?_
    refine cg (sp_pickOr (od rfl) fun hg => odw rfl (not_t hg)) ?_
    refine mv rfl ?_
    refine sc (sgF rfl fun hG => sp_load ty25 (od rfl)) ?_
    refine sc (sgF rfl fun hG => sp_move (od rfl)) ?_
    refine sc (sgF rfl fun hG => sp_move (od rfl)) ?_
    refine sc (sgF rfl fun hG => sp_call en35 (f35_ok (guard_some e_69 hG)) ⟨odw rfl hG, odw rfl hG, odw rfl hG, trivial⟩) ?_
    refine sc (sgF rfl fun hG => sp_eql (odw rfl hG) (odi)) ?_
    refine cg (sp_pickOr (od rfl) fun hg => odw rfl (not_t hg)) ?_
    refine cg (sp_assign (od rfl)) ?_
    refine sn fun a w hS => ?_
    refine et ?_
    refine wp_ret ?_
    cases h
    exact st_ret hS (run_results1 Tryz.results12 a w) (hS.get rfl)
  have h := ite_f hb h
  refine wp_skip ?_
  refine et ?_
  refine ws ?_
  refine ws ?_
  refine st_reg mixed (by kernel_rfl) hS ?_
  refine mv rfl ?_
  refine cg (sp_not (od rfl)) ?_
  refine sn fun a w hS => ?_
  refine et ?_
  refine st_cond hS rfl (fun hb => ?_) (fun hb => ?_)
  · have h := ite_t hb h
    refine ws ?_
    refine st_reg mixed (by kernel_rfl) hS ?_
    refine cg (sp_assign (odb)) ?_
    refine sn fun a w hS => ?_
    refine et ?_
    refine wp_ret ?_
    refine exit_thenR ?_
    cases h
    exact st_ret hS (run_results1 Tryz.results12 a w) (hS.get rfl)
  have h := ite_f hb h
  refine wp_skip ?_
  refine et ?_
  refine ws ?_
  refine l_start ?_
  refine s_c hS (sg (sp_load ty25 (od rfl))) rfl fun a w hS hM => ?_
  refine s_alloc ziR25_ hS rfl fun a w b_70 hS hM => ?_
  have hS : St _ F0 [Item.box (α := Int × Int × Int × (List (List Int)) × (List S_api_Turn)) 25 b_70 ((0 : Int), (0 : Int), (0 : Int), ([] : List (List Int)), ([] : List S_api_Turn))] _ w0 _ _ := hS
  have hS : St _ F0 [Item.box (α := Int × Int × Int × (List (List Int)) × (List S_api_Turn)) 25 b_70 ((0 : Int), (0 : Int), (0 : Int), ([] : List (List Int)), ([] : List S_api_Turn))] _ w0 _ _ := hS
  refine s_storeB (α := S_api_Roster) (k := 0) (Δ := [(1, isV (α := Int) p1), (2, isV (α := List Int) y_12), (5, isA (α := S_api_Roster) p0), (9, isA (α := S_api_Turn) p4), (11, isV (α := List Int) v_7.1), (22, Pr.ptr b_70), (135, isV (α := S_api_Roster) p0)]) ty25 hS rfl ⟨od rfl, od rfl, od rfl, od rfl, od rfl, od rfl, od rfl, trivial⟩ ⟨fun _ _ _ _ h => h, fun _ _ _ _ h => h, fun _ _ _ _ h => h, fun _ _ _ _ h => h, fun _ _ _ _ h => h, fun _ _ _ _ h => h, fun _ _ _ _ h => h, trivial⟩ rfl (od rfl) fun w hS hM => ?_
  have hS : St _ F0 [Item.box (α := Int × Int × Int × (List (List Int)) × (List S_api_Turn)) 25 b_70 (p0.1, p0.2.1, p0.2.2.1, p0.2.2.2.1, p0.2.2.2.2)] _ w0 _ _ := hS
  refine l_end ?_
  refine et ?_
  refine ws ?_
  obtain ⟨m_71, e_72, h⟩ := bind_some h
  obtain ⟨z_76, e_77, h⟩ := bind_some h
  refine wp_mono (Q := fun e a w => e = Exit.normal ∧ ∃ u_78 : Value, St 230 F0 [Item.box (α := Int × Int × Int × (List (List Int)) × Raw) 25 b_70 (p0.1, p0.2.1, p0.2.2.1, p0.2.2.2.1, (Raw.mk u_78)), Item.sl (α := S_api_Turn) 45 u_78 z_76] [(1, isV (α := Int) p1), (2, isV (α := List Int) y_12), (5, isA (α := S_api_Roster) p0), (11, isV (α := List Int) v_7.1), (22, Pr.ptr b_70)] w0 a w) ?_ ?_
  · refine st_floatA mixed [1, 1, 2, 1, 2, 2, 2, 2] [2, 4, 5, 6, 7] 5 (by kernel_rfl) (by kernel_rfl) (by kernel_rfl) rfl hS ?_
    refine sfF (sy (sy_fieldAddr fd25_4 (od rfl))) ?_
    refine sfF (sy (sy_load ty23 (od rfl))) ?_
    refine sfT ?_
    refine sfF (sy (sy_load ty45 (od rfl))) ?_
    refine sfT ?_
    refine sfT ?_
    refine sfT ?_
    refine sfT ?_
    refine sfN fun c a w hS hC => ?_
    refine anyT_of [2, 4] (by kernel_rfl) ?_
    refine allR_cons rfl ?_ ?_
    · skip
      refine s_callI en61 (f61_ok e_72) hS ⟨od rfl, trivial⟩ rfl fun a w u_73 x_74 hS hM => ?_
      have hS : St _ F0 [Item.box (α := Int × Int × Int × (List (List Int)) × (List S_api_Turn)) 25 b_70 (p0.1, p0.2.1, p0.2.2.1, p0.2.2.2.1, p0.2.2.2.2), Item.sl (α := S_api_Turn) 45 u_73 m_71] _ w0 _ _ := hS
      have hC := Mem.le_trans hC hM
      refine s_nextA hC ?_
      refine anyT_of [4] (by kernel_rfl) ?_
      refine allR_cons rfl ?_ ?_
      · skip
        refine s_build [.tmp 139] ([p4] : List S_api_Turn) sl23 ze45 rfl rfl rfl rfl hS ⟨od rfl, trivial⟩ rfl fun a w u_75 hS hM => ?_
        have hS : St _ F0 [Item.box (α := Int × Int × Int × (List (List Int)) × (List S_api_Turn)) 25 b_70 (p0.1, p0.2.1, p0.2.2.1, p0.2.2.2.1, p0.2.2.2.2), Item.sl (α := S_api_Turn) 45 u_73 m_71, Item.sl (α := S_api_Turn) 45 u_75 ([p4] : List S_api_Turn)] _ w0 _ _ := hS
        have hC := Mem.le_trans hC hM
        refine s_nextA hC ?_
        refine anyT_of [5] (by kernel_rfl) ?_
        refine allR_cons rfl ?_ ?_
        · skip
          have hC := le_erase 2 hC
          have hS := st_freeze 2 140 hS rfl rfl
          refine s_append (k := 1) (Δ := [(1, isV (α := Int) p1), (2, isV (α := List Int) y_12), (5, isA (α := S_api_Roster) p0), (11, isV (α := List Int) v_7.1), (22, Pr.ptr b_70), (138, Pr.is u_73), (140, isV (α := List S_api_Turn) ([p4] : List S_api_Turn))]) sl23 ze45 hS rfl ⟨od rfl, od rfl, od rfl, od rfl, od rfl, od rfl, od rfl, trivial⟩ ⟨fun _ _ _ _ h => h, fun _ _ _ _ h => h, fun _ _ _ _ h => h, fun _ _ _ _ h => h, fun _ _ _ _ h => h, fun _ _ _ _ h => h, fun _ _ _ _ h => h, trivial⟩ (od rfl) (od rfl) e_77 rfl fun a w u_78 hS hM => ?_
          have hS : St _ F0 [Item.box (α := Int × Int × Int × (List (List Int)) × (List S_api_Turn)) 25 b_70 (p0.1, p0.2.1, p0.2.2.1, p0.2.2.2.1, p0.2.2.2.2), Item.sl (α := S_api_Turn) 45 u_78 z_76] _ w0 _ _ := hS
          have hC := Mem.le_trans hC hM
          refine s_nextA hC ?_
          refine anyT_of [6] (by kernel_rfl) ?_
          refine allR_cons rfl ?_ ?_
          · skip
            refine s_c hS (sg (sp_fieldAddrP fo25_4 (od rfl))) rfl fun a w hS hM => ?_
            have hC := Mem.le_trans hC hM
            refine s_nextA hC ?_
            refine anyT_of [7] (by kernel_rfl) ?_
            refine allR_cons rfl ?_ ?_
            · skip
              obtain ⟨v_79, hS⟩ := st_toraw (α := Int × Int × Int × (List (List Int)) × (List S_api_Turn)) 0 hS rfl (ToR.snd (ToR.snd (ToR.snd (ToR.snd ToR.self))))
              refine s_storeP (k := 0) (off := 4) (Δ := [(1, isV (α := Int) p1), (2, isV (α := List Int) y_12), (5, isA (α := S_api_Roster) p0), (11, isV (α := List Int) v_7.1), (22, Pr.ptr b_70), (141, Pr.is u_78), (142, Pr.is (.pointer (some ⟨b_70, 4, none⟩)))]) tyR23_w hS rfl ⟨od rfl, od rfl, od rfl, od rfl, od rfl, od rfl, od rfl, trivial⟩ ⟨fun _ _ _ _ h => h, fun _ _ _ _ h => h, fun _ _ _ _ h => h, fun _ _ _ _ h => h, fun _ _ _ _ h => h, fun _ _ _ _ h => h, fun _ _ _ _ h => h, trivial⟩ (od rfl) (odRaw (od rfl) (hS.one (k := 1) rfl)) sf25_4_4 fun w hS hM => ?_
              have hS : St _ F0 [Item.box (α := Int × Int × Int × (List (List Int)) × Raw) 25 b_70 (p0.1, p0.2.1, p0.2.2.1, p0.2.2.2.1, (Raw.mk u_78)), Item.sl (α := S_api_Turn) 45 u_78 z_76] _ w0 _ _ := hS
              have hC := Mem.le_trans hC hM
              refine s_nextA hC ?_
              refine anyT_done ?_
              exact ⟨rfl, u_78, hS.weak ⟨od rfl, od rfl, od rfl, od rfl, od rfl, trivial⟩⟩
            exact allR_nil
          exact allR_nil
        exact allR_nil
      exact allR_nil
    refine allR_cons rfl ?_ ?_
    · skip
      refine s_build [.tmp 139] ([p4] : List S_api_Turn) sl23 ze45 rfl rfl rfl rfl hS ⟨od rfl, trivial⟩ rfl fun a w u_75 hS hM => ?_
      have hS : St _ F0 [Item.box (α := Int × Int × Int × (List (List Int)) × (List S_api_Turn)) 25 b_70 (p0.1, p0.2.1, p0.2.2.1, p0.2.2.2.1, p0.2.2.2.2), Item.sl (α := S_api_Turn) 45 u_75 ([p4] : List S_api_Turn)] _ w0 _ _ := hS
      have hC := Mem.le_trans hC hM
      refine s_nextA hC ?_
      refine anyT_of [2] (by kernel_rfl) ?_
      refine allR_cons rfl ?_ ?_
      · skip
        refine s_callI en61 (f61_ok e_72) hS ⟨od rfl, trivial⟩ rfl fun a w u_73 x_74 hS hM => ?_
        have hS : St _ F0 [Item.box (α := Int × Int × Int × (List (List Int)) × (List S_api_Turn)) 25 b_70 (p0.1, p0.2.1, p0.2.2.1, p0.2.2.2.1, p0.2.2.2.2), Item.sl (α := S_api_Turn) 45 u_75 ([p4] : List S_api_Turn), Item.sl (α := S_api_Turn) 45 u_73 m_71] _ w0 _ _ := hS
        have hC := Mem.le_trans hC hM
        refine s_nextA hC ?_
        refine anyT_of [5] (by kernel_rfl) ?_
        refine allR_cons rfl ?_ ?_
        · skip
          have hC := le_erase 1 hC
          have hS := st_freeze 1 140 hS rfl rfl
          refine s_append (k := 1) (Δ := [(1, isV (α := Int) p1), (2, isV (α := List Int) y_12), (5, isA (α := S_api_Roster) p0), (11, isV (α := List Int) v_7.1), (22, Pr.ptr b_70), (138, Pr.is u_73), (140, isV (α := List S_api_Turn) ([p4] : List S_api_Turn))]) sl23 ze45 hS rfl ⟨od rfl, od rfl, od rfl, od rfl, od rfl, od rfl, od rfl, trivial⟩ ⟨fun _ _ _ _ h => h, fun _ _ _ _ h => h, fun _ _ _ _ h => h, fun _ _ _ _ h => h, fun _ _ _ _ h => h, fun _ _ _ _ h => h, fun _ _ _ _ h => h, trivial⟩ (od rfl) (od rfl) e_77 rfl fun a w u_78 hS hM => ?_
          have hS : St _ F0 [Item.box (α := Int × Int × Int × (List (List Int)) × (List S_api_Turn)) 25 b_70 (p0.1, p0.2.1, p0.2.2.1, p0.2.2.2.1, p0.2.2.2.2), Item.sl (α := S_api_Turn) 45 u_78 z_76] _ w0 _ _ := hS
          have hC := Mem.le_trans hC hM
          refine s_nextA hC ?_
          refine anyT_of [6] (by kernel_rfl) ?_
          refine allR_cons rfl ?_ ?_
          · skip
            refine s_c hS (sg (sp_fieldAddrP fo25_4 (od rfl))) rfl fun a w hS hM => ?_
            have hC := Mem.le_trans hC hM
            refine s_nextA hC ?_
            refine anyT_of [7] (by kernel_rfl) ?_
            refine allR_cons rfl ?_ ?_
            · skip
              obtain ⟨v_79, hS⟩ := st_toraw (α := Int × Int × Int × (List (List Int)) × (List S_api_Turn)) 0 hS rfl (ToR.snd (ToR.snd (ToR.snd (ToR.snd ToR.self))))
              refine s_storeP (k := 0) (off := 4) (Δ := [(1, isV (α := Int) p1), (2, isV (α := List Int) y_12), (5, isA (α := S_api_Roster) p0), (11, isV (α := List Int) v_7.1), (22, Pr.ptr b_70), (141, Pr.is u_78), (142, Pr.is (.pointer (some ⟨b_70, 4, none⟩)))]) tyR23_w hS rfl ⟨od rfl, od rfl, od rfl, od rfl, od rfl, od rfl, od rfl, trivial⟩ ⟨fun _ _ _ _ h => h, fun _ _ _ _ h => h, fun _ _ _ _ h => h, fun _ _ _ _ h => h, fun _ _ _ _ h => h, fun _ _ _ _ h => h, fun _ _ _ _ h => h, trivial⟩ (od rfl) (odRaw (od rfl) (hS.one (k := 1) rfl)) sf25_4_4 fun w hS hM => ?_
              have hS : St _ F0 [Item.box (α := Int × Int × Int × (List (List Int)) × Raw) 25 b_70 (p0.1, p0.2.1, p0.2.2.1, p0.2.2.2.1, (Raw.mk u_78)), Item.sl (α := S_api_Turn) 45 u_78 z_76] _ w0 _ _ := hS
              have hC := Mem.le_trans hC hM
              refine s_nextA hC ?_
              refine anyT_done ?_
              exact ⟨rfl, u_78, hS.weak ⟨od rfl, od rfl, od rfl, od rfl, od rfl, trivial⟩⟩
            exact allR_nil
          exact allR_nil
        exact allR_nil
      exact allR_nil
    exact allR_nil
  rintro e a w ⟨rfl, u_78, hS⟩
  refine et ?_
  refine ws ?_
  refine ws ?_
  have hS := st_unraw 1 0 hS rfl rfl (UnR.snd (UnR.snd (UnR.snd (UnR.snd UnR.self))))
  have hS : St _ F0 [Item.box (α := S_api_Roster) 25 b_70 ((p0.1, p0.2.1, p0.2.2.1, p0.2.2.2.1, z_76) : S_api_Roster)] _ w0 _ _ := hS
  have hS := st_freezeB 0 22 hS rfl rfl
  obtain ⟨v_80, e_81, h⟩ := bind_some h
  refine st_reg mixed (by kernel_rfl) hS ?_
  refine cg (sp_load ty25 (od rfl)) ?_
  refine cg (sp_call en33 (f33_ok e_81) ⟨od rfl, trivial⟩) ?_
  refine sn fun a w hS => ?_
  refine et ?_
  refine st_cond hS rfl (fun hb => ?_) (fun hb => ?_)
  · have h := ite_t hb h
    refine ws ?_
    obtain ⟨v_82, e_83, h⟩ := bind_some h
    refine st_reg mixed (by kernel_rfl) hS ?_
    refine cg (sp_load ty25 (od rfl)) ?_
    refine mv rfl ?_
    refine cg (sp_call en53 (f53_ok e_83) ⟨od rfl, od rfl, trivial⟩) ?_
    refine mv rfl ?_
    refine cg (sp_extract (od rfl) rfl) ?_
    refine cg (sp_extract (od rfl) rfl) ?_
    refine cg (sp_assign (od rfl)) ?_
    refine cg (sp_assign (od rfl)) ?_
    refine sn fun a w hS => ?_
    refine et ?_
    refine ws ?_
    obtain ⟨v_84, e_85, h⟩ := bind_some h
    refine st_reg mixed (by kernel_rfl) hS ?_
    refine cg (sp_load ty25 (od rfl)) ?_
    refine mv rfl ?_
    refine cg (sp_call en34 (f34_ok e_85) ⟨od rfl, od rfl, trivial⟩) ?_
    refine mv rfl ?_
    refine cg (sp_extract (od rfl) rfl) ?_
    refine cg (sp_extract (od rfl) rfl) ?_
    refine cg (sp_extract (od rfl) rfl) ?_
    refine cg (sp_assign (od rfl)) ?_
    refine cg (sp_assign (od rfl)) ?_
    refine cg (sp_assign (od rfl)) ?_
    refine sn fun a w hS => ?_
    refine et ?_
    refine ws ?_
    obtain ⟨v_86, e_87, h⟩ := bind_some h
    refine st_reg mixed (by kernel_rfl) hS ?_
    refine cg (sp_load ty25 (od rfl)) ?_
    refine mv rfl ?_
    refine cg (sp_call en53 (f53_ok e_87) ⟨od rfl, od rfl, trivial⟩) ?_
    refine mv rfl ?_
    refine cg (sp_extract (od rfl) rfl) ?_
    refine cg (sp_extract (od rfl) rfl) ?_
    refine cg (sp_assign (od rfl)) ?_
    refine cg (sp_assign (od rfl)) ?_
    refine sn fun a w hS => ?_
    refine et ?_
    refine ws ?_
    refine st_reg mixed (by kernel_rfl) hS ?_
    refine mv rfl ?_
    refine cg (sp_neq (od rfl) (odi)) ?_
    refine mv rfl ?_
    refine sc (sgF rfl fun hG => sp_move (od rfl)) ?_
    refine sc (sgF rfl fun hG => sp_neq (odw rfl hG) (odi)) ?_
    refine cg (sp_pickOr (od rfl) fun hg => odw rfl (not_t hg)) ?_
    refine mv rfl ?_
    refine sc (sgF rfl fun hG => sp_move (od rfl)) ?_
    refine sc (sgF rfl fun hG => sp_neq (odw rfl hG) (odi)) ?_
    refine cg (sp_pickOr (od rfl) fun hg => odw rfl (not_t hg)) ?_
    refine mv rfl ?_
    refine sc (sgF rfl fun hG => sp_move (od rfl)) ?_
    refine sc (sgF rfl fun hG => sp_not (odw rfl hG)) ?_
    refine cg (sp_pickOr (od rfl) fun hg => odw rfl (not_t hg)) ?_
    refine mv rfl ?_
    refine sc (sgF rfl fun hG => sp_move (od rfl)) ?_
    refine sc (sgF rfl fun hG => sp_move (od rfl)) ?_
    refine sc (sgF rfl fun hG => sp_gtr (odw rfl hG) (odw rfl hG)) ?_
    refine cg (sp_pickOr (od rfl) fun hg => odw rfl (not_t hg)) ?_
    refine sn fun a w hS => ?_
    refine et ?_
    refine st_cond hS rfl (fun hb => ?_) (fun hb => ?_)
    · have h := ite_t hb h
      refine ws ?_
      refine st_reg mixed (by kernel_rfl) hS ?_
      refine cg (sp_assign (odb)) ?_
      refine sn fun a w hS => ?_
      refine et ?_
      refine wp_ret ?_
      refine exit_thenR ?_
      cases h
      exact st_ret hS (run_results1 Tryz.results12 a w) (hS.get rfl)
    have h := ite_f hb h
    refine wp_skip ?_
    refine et ?_
    refine ws ?_
    obtain ⟨v_88, e_89, h⟩ := bind_some h
    refine st_reg mixed (by kernel_rfl) hS ?_
    refine cg (sp_load ty25 (od rfl)) ?_
    refine mv rfl ?_
    refine mv rfl ?_
    refine cg (sp_call en57 (f57_ok e_89) ⟨od rfl, od rfl, od rfl, trivial⟩) ?_
    refine mv rfl ?_
    refine cg (sp_extract (od rfl) rfl) ?_
    refine cg (sp_extract (od rfl) rfl) ?_
    refine cg (sp_assign (od rfl)) ?_
    refine cg (sp_assign (od rfl)) ?_
    refine sn fun a w hS => ?_
    refine et ?_
    refine ws ?_
    refine ws ?_
    refine st_reg mixed (by kernel_rfl) hS ?_
    refine mv rfl ?_
    refine cg (sp_neq (od rfl) (odi)) ?_
    refine mv rfl ?_
    refine sc (sgF rfl fun hG => sp_move (od rfl)) ?_
    refine sc (sgF rfl fun hG => sp_lss (odw rfl hG) (odi)) ?_
    refine cg (sp_pickOr (od rfl) fun hg => odw rfl (not_t hg)) ?_
    refine mv rfl ?_
    refine sc (sgF rfl fun hG => sp_move (od rfl)) ?_
    refine sc (sgF rfl fun hG => sp_gtr (odw rfl hG) (odi)) ?_
    refine cg (sp_pickOr (od rfl) fun hg => odw rfl (not_t hg)) ?_
    refine sn fun a w hS => ?_
    refine et ?_
    refine st_cond hS rfl (fun hb => ?_) (fun hb => ?_)
    · have h := ite_t hb h
      refine ws ?_
      refine st_reg mixed (by kernel_rfl) hS ?_
      refine cg (sp_assign (odb)) ?_
      refine sn fun a w hS => ?_
      refine et ?_
      refine wp_ret ?_
      refine exit_thenR ?_
      cases h
      exact st_ret hS (run_results1 Tryz.results12 a w) (hS.get rfl)
    have h := ite_f hb h
    refine wp_skip ?_
    refine et ?_
    refine ws ?_
    obtain ⟨v_90, e_91, h⟩ := bind_some h
    refine l_start ?_
    refine s_c hS (sg (sp_load ty25 (od rfl))) rfl fun a w hS hM => ?_
    refine s_c hS (sg (sp_move (od rfl))) rfl fun a w hS hM => ?_
    refine s_c hS (sg (sp_call en62 (f62_ok e_91) ⟨od rfl, od rfl, trivial⟩)) rfl fun a w hS hM => ?_
    refine s_allocStore ze25 hS (od rfl) (fun k hk => by cases hk; rfl) rfl fun a w hS hM => ?_
    refine l_end ?_
    refine et ?_
    refine ws ?_
    refine ws ?_
    obtain ⟨v_92, e_93, h⟩ := bind_some h
    obtain ⟨v_94, e_95, h⟩ := bind_some h
    refine st_reg mixed (by kernel_rfl) hS ?_
    refine cg (sp_load ty25 (od rfl)) ?_
    refine cg (sp_call en33 (f33_ok e_93) ⟨od rfl, trivial⟩) ?_
    refine mv rfl ?_
    refine sc (sgT rfl fun hG => sp_load ty25 (od rfl)) ?_
    refine sc (sgT rfl fun hG => sp_move (od rfl)) ?_
    refine sc (sgT rfl fun hG => sp_move (od rfl)) ?_
    refine sc (sgT rfl fun hG => sp_call en35 (f35_ok (guard_some e_95 hG)) ⟨odw rfl hG, odw rfl hG, odw rfl hG, trivial⟩) ?_
    refine sc (sgT rfl fun hG => sp_neq (odw rfl hG) (odi)) ?_
    refine cg (sp_pickAnd (od rfl) fun hg => odw rfl hg) ?_
    refine sn fun a w hS => ?_
    refine et ?_
    refine st_cond hS rfl (fun hb => ?_) (fun hb => ?_)
    · have h := ite_t hb h
      refine ws ?_
      refine st_reg mixed (by kernel_rfl) hS ?_
      refine cg (sp_assign (odb)) ?_
      refine sn fun a w hS => ?_
      refine et ?_
      refine wp_ret ?_
      refine exit_thenR ?_
      cases h
      exact st_ret hS (run_results1 Tryz.results12 a w) (hS.get rfl)
    have h := ite_f hb h
    refine wp_skip ?_
    refine et ?_
    refine ws ?_
    obtain ⟨v_96, e_97, h⟩ := bind_some h
    refine l_start ?_
    refine s_c hS (sg (sp_load ty25 (od rfl))) rfl fun a w hS hM => ?_
    refine s_c hS (sg (sp_move (od rfl))) rfl fun a w hS hM => ?_
    refine s_c hS (sg (sp_add (od rfl) (odi))) rfl fun a w hS hM => ?_
    refine s_c hS (sg (sp_call en62 (f62_ok e_97) ⟨od rfl, od rfl, trivial⟩)) rfl fun a w hS hM => ?_
    refine s_allocStore ze25 hS (od rfl) (fun k hk => by cases hk; rfl) rfl fun a w hS hM => ?_
    refine l_end ?_
    refine et ?_
    refine ws ?_
    obtain ⟨v_98, e_99, h⟩ := bind_some h
    obtain ⟨v_100, e_101, h⟩ := bind_some h
    refine st_reg mixed (by kernel_rfl) hS ?_
    refine mv rfl ?_
    refine cg (sp_eql (od rfl) (odi)) ?_
    refine mv rfl ?_
    refine sc (sgF rfl fun hG => sp_load ty25 (od rfl)) ?_
    refine sc (sgF rfl fun hG => sp_call en33 (f33_ok (guard_some e_99 hG)) ⟨odw rfl hG, trivial⟩) ?_
    refine sc (sgF rfl fun hG => sp_not (odw rfl hG)) ?_
    refine cg (sp_pickOr (od rfl) fun hg => odw rfl (not_t hg)) ?_
    refine mv rfl ?_
    refine sc (sgF rfl fun hG => sp_load ty25 (od rfl)) ?_
    refine sc (sgF rfl fun hG => sp_move (od rfl)) ?_
    refine sc (sgF rfl fun hG => sp_move (od rfl)) ?_
    refine sc (sgF rfl fun hG => sp_call en35 (f35_ok (guard_some e_101 hG)) ⟨odw rfl hG, odw rfl hG, odw rfl hG, trivial⟩) ?_
    refine sc (sgF rfl fun hG => sp_eql (odw rfl hG) (odi)) ?_
    refine cg (sp_pickOr (od rfl) fun hg => odw rfl (not_t hg)) ?_
    refine cg (sp_assign (od rfl)) ?_
    refine sn fun a w hS => ?_
    refine et ?_
    refine wp_ret ?_
    cases h
    exact st_ret hS (run_results1 Tryz.results12 a w) (hS.get rfl)
  have h := ite_f hb h
  refine wp_skip ?_
  refine et ?_
  refine ws ?_
  obtain ⟨v_102, e_103, h⟩ := bind_some h
  refine st_reg mixed (by kernel_rfl) hS ?_
  refine cg (sp_load ty25 (od rfl)) ?_
  refine mv rfl ?_
  refine mv rfl ?_
  refine cg (sp_call en57 (f57_ok e_103) ⟨od rfl, od rfl, od rfl, trivial⟩) ?_
  refine mv rfl ?_
  refine cg (sp_extract (od rfl) rfl) ?_
  refine cg (sp_extract (od rfl) rfl) ?_
  refine cg (sp_assign (od rfl)) ?_
  refine cg (sp_assign (od rfl)) ?_
  refine sn fun a w hS => ?_
  refine et ?_
  refine ws ?_
  refine ws ?_
  refine st_reg mixed (by kernel_rfl) hS ?_
  refine mv rfl ?_
  refine cg (sp_neq (od rfl) (odi)) ?_
  refine mv rfl ?_
  refine sc (sgF rfl fun hG => sp_move (od rfl)) ?_
  refine sc (sgF rfl fun hG => sp_lss (odw rfl hG) (odi)) ?_
  refine cg (sp_pickOr (od rfl) fun hg => odw rfl (not_t hg)) ?_
  refine mv rfl ?_
  refine sc (sgF rfl fun hG => sp_move (od rfl)) ?_
  refine sc (sgF rfl fun hG => sp_gtr (odw rfl hG) (odi)) ?_
  refine cg (sp_pickOr (od rfl) fun hg => odw rfl (not_t hg)) ?_
  refine sn fun a w hS => ?_
  refine et ?_
  refine st_cond hS rfl (fun hb => ?_) (fun hb => ?_)
  · have h := ite_t hb h
    refine ws ?_
    refine st_reg mixed (by kernel_rfl) hS ?_
    refine cg (sp_assign (odb)) ?_
    refine sn fun a w hS => ?_
    refine et ?_
    refine wp_ret ?_
    refine exit_thenR ?_
    cases h
    exact st_ret hS (run_results1 Tryz.results12 a w) (hS.get rfl)
  have h := ite_f hb h
  refine wp_skip ?_
  refine et ?_
  refine ws ?_
  obtain ⟨v_104, e_105, h⟩ := bind_some h
  refine l_start ?_
  refine s_c hS (sg (sp_load ty25 (od rfl))) rfl fun a w hS hM => ?_
  refine s_c hS (sg (sp_move (od rfl))) rfl fun a w hS hM => ?_
  refine s_c hS (sg (sp_call en62 (f62_ok e_105) ⟨od rfl, od rfl, trivial⟩)) rfl fun a w hS hM => ?_
  refine s_allocStore ze25 hS (od rfl) (fun k hk => by cases hk; rfl) rfl fun a w hS hM => ?_
  refine l_end ?_
  refine et ?_
  refine ws ?_
  refine ws ?_
  obtain ⟨v_106, e_107, h⟩ := bind_some h
  obtain ⟨v_108, e_109, h⟩ := bind_some h
  refine st_reg mixed (by kernel_rfl) hS ?_
  refine cg (sp_load ty25 (od rfl)) ?_
  refine cg (sp_call en33 (f33_ok e_107) ⟨od rfl, trivial⟩) ?_
  refine mv rfl ?_
  refine sc (sgT rfl fun hG => sp_load ty25 (od rfl)) ?_
  refine sc (sgT rfl fun hG => sp_move (od rfl)) ?_
  refine sc (sgT rfl fun hG => sp_move (od rfl)) ?_
  refine sc (sgT rfl fun hG => sp_call en35 (f35_ok (guard_some e_109 hG)) ⟨odw rfl hG, odw rfl hG, odw rfl hG, trivial⟩) ?_
  refine sc (sgT rfl fun hG => sp_neq (odw rfl hG) (odi)) ?_
  refine cg (sp_pickAnd (od rfl) fun hg => odw rfl hg) ?_
  refine sn fun a w hS => ?_
  refine et ?_
  refine st_cond hS rfl (fun hb => ?_) (fun hb => ?_)
  · have h := ite_t hb h
    refine ws ?_
    refine st_reg mixed (by kernel_rfl) hS ?_
    refine cg (sp_assign (odb)) ?_
    refine sn fun a w hS => ?_
    refine et ?_
    refine wp_ret ?_
    refine exit_thenR ?_
    cases h
    exact st_ret hS (run_results1 Tryz.results12 a w) (hS.get rfl)
  have h := ite_f hb h
  refine wp_skip ?_
  refine et ?_
  refine ws ?_
  obtain ⟨v_110, e_111, h⟩ := bind_some h
  refine l_start ?_
  refine s_c hS (sg (sp_load ty25 (od rfl))) rfl fun a w hS hM => ?_
  refine s_c hS (sg (sp_move (od rfl))) rfl fun a w hS hM => ?_
  refine s_c hS (sg (sp_add (od rfl) (odi))) rfl fun a w hS hM => ?_
  refine s_c hS (sg (sp_call en62 (f62_ok e_111) ⟨od rfl, od rfl, trivial⟩)) rfl fun a w hS hM => ?_
  refine s_allocStore ze25 hS (od rfl) (fun k hk => by cases hk; rfl) rfl fun a w hS hM => ?_
  refine l_end ?_
  refine et ?_
  refine ws ?_
  obtain ⟨v_112, e_113, h⟩ := bind_some h
  obtain ⟨v_114, e_115, h⟩ := bind_some h
  refine st_reg mixed (by kernel_rfl) hS ?_
  refine mv rfl ?_
  refine cg (sp_eql (od rfl) (odi)) ?_
  refine mv rfl ?_
  refine sc (sgF rfl fun hG => sp_load ty25 (od rfl)) ?_
  refine sc (sgF rfl fun hG => sp_call en33 (f33_ok (guard_some e_113 hG)) ⟨odw rfl hG, trivial⟩) ?_
  refine sc (sgF rfl fun hG => sp_not (odw rfl hG)) ?_
  refine cg (sp_pickOr (od rfl) fun hg => odw rfl (not_t hg)) ?_
  refine mv rfl ?_
  refine sc (sgF rfl fun hG => sp_load ty25 (od rfl)) ?_
  refine sc (sgF rfl fun hG => sp_move (od rfl)) ?_
  refine sc (sgF rfl fun hG => sp_move (od rfl)) ?_
  refine sc (sgF rfl fun hG => sp_call en35 (f35_ok (guard_some e_115 hG)) ⟨odw rfl hG, odw rfl hG, odw rfl hG, trivial⟩) ?_
  refine sc (sgF rfl fun hG => sp_eql (odw rfl hG) (odi)) ?_
  refine cg (sp_pickOr (od rfl) fun hg => odw rfl (not_t hg)) ?_
  refine cg (sp_assign (od rfl)) ?_
  refine sn fun a w hS => ?_
  refine et ?_
  refine wp_ret ?_
  cases h
  exact st_ret hS (run_results1 Tryz.results12 a w) (hS.get rfl)

end Go.Proofs.YthogdhepjcomjaaGreatDoor
