/-
  What is proved: each Go function named here returns what its model tells, and changes nothing that was there; where the model tells something.
-/
import Derived.Test.YtnnhmgcigoiceaaGreatDoorWalkE
import Derived.Test.YtnnhmgcigoiceaaGreatDoorParse
import Derived.Test.YtnnhmgcigoiceaaGreatDoorRefP
import Derived.Test.YtnnhmgcigoiceaaGreatDoorModelF
set_option linter.unusedVariables false
set_option maxRecDepth 100000
namespace Go.Proofs.YtnnhmgcigoiceaaGreatDoor
open Go Go.RowKit Go.Proofs.YtnnhmgcigoiceaaGreatDoor.Wh

theorem f8_ok {fuel : Nat} {p0 : ByteArray} {r : S_api_Turn × Int} (h : M.f8 fuel p0 = some r) : CallT Tryz.prog 8 [isV p0] (isTup [isV r.1, isV r.2]) := by
  unfold M.f8 at h
  refine callT_of Tryz.func8 rfl Tryz.ntmps8 rfl fun F0 w0 a hT hS => ?_
  refine ws ?_
  refine l_start ?_
  refine s_alloc zi23 hS rfl fun a w b_1 hS hM => ?_
  have hS : St _ F0 [Item.box (α := S_api_Turn) 23 b_1 ((0, 0, 0, 0, 0, 0) : S_api_Turn)] _ w0 _ _ := hS
  refine s_c hS (sg (sp_assign (odi))) rfl fun a w hS hM => ?_
  refine l_end ?_
  refine et ?_
  refine ws ?_
  refine ws ?_
  refine st_reg mixed (by kernel_rfl) hS ?_
  refine mv rfl ?_
  refine cg (sp_lenS Tryz.underlying9 (od rfl)) ?_
  refine cg (sp_gtr (od rfl) (odi)) ?_
  refine sn fun a w hS => ?_
  refine et ?_
  refine st_cond hS rfl (fun hb => ?_) (fun hb => ?_)
  · have h := ite_t hb h
    refine ws ?_
    refine l_start ?_
    refine s_c hS (sg (bd23_ )) rfl fun a w hS hM => ?_
    refine s_storeB (k := 0) (Δ := [(2, Pr.ptr b_1), (13, isV (α := S_api_Turn) ((0, 0, 0, 0, 0, 0) : S_api_Turn))]) ty23 hS rfl ⟨od rfl, od rfl, trivial⟩ ⟨fun _ _ _ _ h => h, fun _ _ _ _ h => h, trivial⟩ rfl (od rfl) fun w hS hM => ?_
    have hS : St _ F0 [Item.box (α := S_api_Turn) 23 b_1 ((0, 0, 0, 0, 0, 0) : S_api_Turn)] _ w0 _ _ := hS
    refine s_c hS (sg (sp_assign (odi))) rfl fun a w hS hM => ?_
    refine l_end ?_
    refine et ?_
    refine wp_ret ?_
    refine exit_thenR ?_
    have hS := st_freezeB 0 2 hS rfl rfl
    cases h
    obtain ⟨v, hr, hv⟩ := run_resC2 Tryz.results8 ty23 (hS.get rfl)
    exact st_ret hS hr ⟨_, rfl, hv, hS.get rfl, trivial⟩
  have h := ite_f hb h
  refine wp_skip ?_
  refine et ?_
  refine ws ?_
  refine l_start ?_
  refine s_build [.const (.int .i64 (0))] ([0] : List Int) sl39 ze3 rfl rfl rfl rfl hS ⟨odi, trivial⟩ rfl fun a w u_2 hS hM => ?_
  have hS : St _ F0 [Item.box (α := S_api_Turn) 23 b_1 ((0, 0, 0, 0, 0, 0) : S_api_Turn), Item.sl (α := Int) 3 u_2 ([0] : List Int)] _ w0 _ _ := hS
  refine s_c hS (sg (sp_assign (od rfl))) rfl fun a w hS hM => ?_
  refine l_end ?_
  refine et ?_
  refine ws ?_
  refine ws ?_
  refine st_reg mixed (by kernel_rfl) hS ?_
  refine cg (sp_assign (odi)) ?_
  refine sn fun a w hS => ?_
  refine et ?_
  refine wp_block ?_
  obtain ⟨o_4, e_5, hr_6⟩ := bind_some h
  refine c_loop (fun K a w => ∃ s_3 : Int × (List Int), ∃ u_7 : Value, loopM _ K s_3 = some o_4 ∧ St 95 F0 [Item.box (α := S_api_Turn) 23 b_1 ((0, 0, 0, 0, 0, 0) : S_api_Turn), Item.sl (α := Int) 3 u_7 s_3.2] [(0, isV (α := ByteArray) p0), (2, Pr.ptr b_1), (4, Pr.is u_7), (5, isV (α := Int) s_3.1)] w0 a w) ?_ ?_ ⟨_, u_2, e_5, hS.weak ⟨od rfl, od rfl, od rfl, od rfl, trivial⟩⟩
  · rintro a w ⟨_, _, hk, _⟩; cases hk
  rintro K a w ⟨s_3, u_7, hF_4, hS⟩
  obtain ⟨o, h, hN_4, hL_4⟩ := loop_more hF_4
  refine ws ?_
  refine ws ?_
  refine st_reg mixed (by kernel_rfl) hS ?_
  refine mv rfl ?_
  refine mv rfl ?_
  refine cg (sp_lenS Tryz.underlying9 (od rfl)) ?_
  refine cg (sp_lss (od rfl) (od rfl)) ?_
  refine sn fun a w hS => ?_
  refine et ?_
  refine st_cond hS rfl (fun hb => ?_) (fun hb => ?_)
  · have h := ite_t hb h
    refine wp_skip ?_
    refine et ?_
    refine ws ?_
    refine wp_block ?_
    refine ws ?_
    have hS := st_os 1 4 hS rfl rfl
    refine st_reg mixed (by kernel_rfl) hS ?_
    refine mv rfl ?_
    refine cg (sp_lenOS Tryz.underlying39 (od rfl)) ?_
    refine cg (sp_assign (od rfl)) ?_
    refine sn fun a w hS => ?_
    refine et ?_
    refine ws ?_
    obtain ⟨v_8, e_9, h⟩ := bind_some h
    refine st_reg mixed (by kernel_rfl) hS ?_
    refine mv rfl ?_
    refine mv rfl ?_
    refine cg (sp_strIdx Tryz.underlying9 (od rfl) (od rfl) e_9) ?_
    refine cg (sp_eql8 (od rfl) (odu8 32 rfl)) ?_
    refine sn fun a w hS => ?_
    refine et ?_
    refine st_cond hS rfl (fun hb => ?_) (fun hb => ?_)
    · have h := ite_t hb h
      obtain ⟨z_10, e_11, h⟩ := bind_some h
      refine l_start ?_
      refine s_c hS (sg (sp_move (od rfl))) rfl fun a w hS hM => ?_
      refine s_c hS (sg (sp_buildSlice [.const (.int .i64 (0))] ([0] : List Int) sl39 ze3 rfl rfl rfl rfl ⟨odi, trivial⟩)) rfl fun a w hS hM => ?_
      refine s_append (k := 1) (Δ := [(0, isV (α := ByteArray) p0), (2, Pr.ptr b_1), (5, isV (α := Int) s_3.1), (27, Pr.is u_7), (28, isV (α := List Int) ([0] : List Int))]) sl39 ze3 hS rfl ⟨od rfl, od rfl, od rfl, odOS rfl, od rfl, trivial⟩ ⟨fun _ _ _ _ h => h, fun _ _ _ _ h => h, fun _ _ _ _ h => h, fun _ _ _ _ h => h, fun _ _ _ _ h => h, trivial⟩ (od rfl) (od rfl) e_11 rfl fun a w u_12 hS hM => ?_
      have hS : St _ F0 [Item.box (α := S_api_Turn) 23 b_1 ((0, 0, 0, 0, 0, 0) : S_api_Turn), Item.sl (α := Int) 3 u_12 z_10] _ w0 _ _ := hS
      refine s_c hS (sg (sp_assign (od rfl))) rfl fun a w hS hM => ?_
      refine l_end ?_
      refine exit_block ?_
      refine et ?_
      refine st_reg mixed (by kernel_rfl) hS ?_
      refine mv rfl ?_
      refine cg (sp_add (od rfl) (odi)) ?_
      refine cg (sp_assign (od rfl)) ?_
      refine sn fun a w hS => ?_
      cases h
      exact ⟨_, u_12, hN_4 _ rfl, hS.weak ⟨od rfl, od rfl, od rfl, od rfl, trivial⟩⟩
    have h := ite_f hb h
    refine ws ?_
    obtain ⟨v_13, e_14, h⟩ := bind_some h
    obtain ⟨v_15, e_16, h⟩ := bind_some h
    refine st_reg mixed (by kernel_rfl) hS ?_
    refine mv rfl ?_
    refine mv rfl ?_
    refine cg (sp_strIdx Tryz.underlying9 (od rfl) (od rfl) e_14) ?_
    refine cg (sp_geq8 (od rfl) (odu8 48 rfl)) ?_
    refine mv rfl ?_
    refine sc (sgT rfl fun hG => sp_move (od rfl)) ?_
    refine sc (sgT rfl fun hG => sp_move (od rfl)) ?_
    refine sc (sgT rfl fun hG => sp_strIdx Tryz.underlying9 (odw rfl hG) (odw rfl hG) (guard_some e_16 hG)) ?_
    refine sc (sgT rfl fun hG => sp_leq8 (odw rfl hG) (odu8 57 rfl)) ?_
    refine cg (sp_pickAnd (od rfl) fun hg => odw rfl hg) ?_
    refine sn fun a w hS => ?_
    refine et ?_
    refine st_cond hS rfl (fun hb => ?_) (fun hb => ?_)
    · have h := ite_t hb h
      obtain ⟨v_17, e_18, h⟩ := bind_some h
      obtain ⟨v_19, e_20, h⟩ := bind_some h
      obtain ⟨v_21, e_22, h⟩ := bind_some h
      obtain ⟨z_23, e_24, h⟩ := bind_some h
      refine st_float mixed [0, 0, 0, 0, 0, 0, 0, 0, 0, 0, 0, 0, 0, 0, 0, 0, 0, 2] (by kernel_rfl) (by kernel_rfl) hS ?_
      refine sfA (sg (sp_move (od rfl))) ?_
      refine sfA (sg (sp_move (od rfl))) ?_
      refine sfA (sg (sp_sub (od rfl) (odi))) ?_
      refine sfA (sg (sp_move (od rfl))) ?_
      refine sfA (sg (sp_move (od rfl))) ?_
      refine sfA (sg (sp_sub (od rfl) (odi))) ?_
      refine sfA (sg (sp_indexAddrOS sl39 (od rfl) (od rfl) e_18)) ?_
      refine sfA (sg (sp_loadEA ty3 (od rfl))) ?_
      refine sfA (sg (sp_mul (odi) (od rfl))) ?_
      refine sfA (sg (sp_move (od rfl))) ?_
      refine sfA (sg (sp_move (od rfl))) ?_
      refine sfA (sg (sp_strIdx Tryz.underlying9 (od rfl) (od rfl) e_20)) ?_
      refine sfA (sg (sp_sub8 (od rfl) (odu8 48 rfl))) ?_
      refine sfA (sg (sp_conv8 Tryz.underlying5 Tryz.underlying3 (od rfl))) ?_
      refine sfA (sg (sp_add (od rfl) (od rfl))) ?_
      refine sfA (sg (sp_min (od rfl) (odi))) ?_
      refine sfA (sg (sp_indexAddrOS sl39 (od rfl) (od rfl) e_22)) ?_
      refine sfT ?_
      refine sfN fun c a w hS hC => ?_
      refine ls ?_
      refine s_storeEA (k := 1) (j := (wr ((s_3.2.length : Int) - 1))) (Δ := [(0, isV (α := ByteArray) p0), (2, Pr.ptr b_1), (4, Pr.is u_7), (5, isV (α := Int) s_3.1), (55, isV (α := Int) (imin (wr ((wr (10 * v_17)) + ((v_19 - (48 : UInt8)).toNat : Int))) 33554432)), (56, isEP Int u_7 (wr ((s_3.2.length : Int) - 1)).toNat)]) ty3 hS rfl ⟨od rfl, od rfl, odOS rfl, od rfl, od rfl, odEP rfl, trivial⟩ ⟨fun _ _ _ _ h => h, fun _ _ _ _ h => h, fun _ _ _ _ h => h, fun _ _ _ _ h => h, fun _ _ _ _ h => h, fun _ _ _ _ h => h, trivial⟩ (odEP rfl) (od rfl) e_24 fun w hS hM => ?_
      have hS : St _ F0 [Item.box (α := S_api_Turn) 23 b_1 ((0, 0, 0, 0, 0, 0) : S_api_Turn), Item.sl (α := Int) 3 u_7 z_23] _ w0 _ _ := hS
      have hC := Mem.le_trans hC hM
      refine s_next hC ?_
      refine s_done ?_
      refine exit_block ?_
      refine et ?_
      refine st_reg mixed (by kernel_rfl) hS ?_
      refine mv rfl ?_
      refine cg (sp_add (od rfl) (odi)) ?_
      refine cg (sp_assign (od rfl)) ?_
      refine sn fun a w hS => ?_
      cases h
      exact ⟨_, u_7, hN_4 _ rfl, hS.weak ⟨od rfl, od rfl, od rfl, od rfl, trivial⟩⟩
    have h := ite_f hb h
    refine ws ?_
    have hS := st_drop 1 hS
    refine l_start ?_
    refine s_c hS (sg (bd23_ )) rfl fun a w hS hM => ?_
    refine s_storeB (k := 0) (Δ := [(2, Pr.ptr b_1), (57, isV (α := S_api_Turn) ((0, 0, 0, 0, 0, 0) : S_api_Turn))]) ty23 hS rfl ⟨od rfl, od rfl, trivial⟩ ⟨fun _ _ _ _ h => h, fun _ _ _ _ h => h, trivial⟩ rfl (od rfl) fun w hS hM => ?_
    have hS : St _ F0 [Item.box (α := S_api_Turn) 23 b_1 ((0, 0, 0, 0, 0, 0) : S_api_Turn)] _ w0 _ _ := hS
    refine s_c hS (sg (sp_assign (odi))) rfl fun a w hS hM => ?_
    refine l_end ?_
    refine et ?_
    refine wp_ret ?_
    refine exit_blockR ?_
    refine exit_thenR ?_
    have hS := st_freezeB 0 2 hS rfl rfl
    cases h
    obtain rfl := hL_4 _ rfl
    have h := (sum_inr hr_6)
    refine exit_thenR ?_
    refine exit_blockR ?_
    refine exit_thenR ?_
    cases h
    obtain ⟨v, hr, hv⟩ := run_resC2 Tryz.results8 ty23 (hS.get rfl)
    exact st_ret hS hr ⟨_, rfl, hv, hS.get rfl, trivial⟩
  have h := ite_f hb h
  refine wp_exit ?_
  refine exit_thenE ?_
  cases h
  obtain rfl := hL_4 _ rfl
  have h := (sum_inl hr_6)
  refine exit_thenE ?_
  refine exit_here ?_
  refine et ?_
  refine ws ?_
  refine ws ?_
  have hS := st_os 1 4 hS rfl rfl
  refine st_reg mixed (by kernel_rfl) hS ?_
  refine mv rfl ?_
  refine cg (sp_lenOS Tryz.underlying39 (od rfl)) ?_
  refine cg (sp_neq (od rfl) (odi)) ?_
  refine sn fun a w hS => ?_
  refine et ?_
  refine st_cond hS rfl (fun hb => ?_) (fun hb => ?_)
  · have h := ite_t hb h
    refine ws ?_
    have hS := st_drop 1 hS
    refine l_start ?_
    refine s_c hS (sg (bd23_ )) rfl fun a w hS hM => ?_
    refine s_storeB (k := 0) (Δ := [(2, Pr.ptr b_1), (61, isV (α := S_api_Turn) ((0, 0, 0, 0, 0, 0) : S_api_Turn))]) ty23 hS rfl ⟨od rfl, od rfl, trivial⟩ ⟨fun _ _ _ _ h => h, fun _ _ _ _ h => h, trivial⟩ rfl (od rfl) fun w hS hM => ?_
    have hS : St _ F0 [Item.box (α := S_api_Turn) 23 b_1 ((0, 0, 0, 0, 0, 0) : S_api_Turn)] _ w0 _ _ := hS
    refine s_c hS (sg (sp_assign (odi))) rfl fun a w hS hM => ?_
    refine l_end ?_
    refine et ?_
    refine wp_ret ?_
    refine exit_thenR ?_
    have hS := st_freezeB 0 2 hS rfl rfl
    cases h
    obtain ⟨v, hr, hv⟩ := run_resC2 Tryz.results8 ty23 (hS.get rfl)
    exact st_ret hS hr ⟨_, rfl, hv, hS.get rfl, trivial⟩
  have h := ite_f hb h
  refine wp_skip ?_
  refine et ?_
  refine ws ?_
  have hS := hS.weak (Δ := [(0, isV (α := ByteArray) p0), (2, Pr.ptr b_1), (4, Pr.is u_7), (5, isV (α := Int) s_3.1), (15, isV (α := Int) s_3.1), (16, isV (α := ByteArray) p0), (17, isV (α := Int) (p0.size : Int)), (18, isV (α := Bool) (decide (s_3.1 < (p0.size : Int)))), (58, Pr.is u_7), (59, isV (α := Int) (s_3.2.length : Int)), (60, isV (α := Bool) ((s_3.2.length : Int) != 6))]) ⟨od rfl, od rfl, odOS rfl, od rfl, od rfl, od rfl, od rfl, od rfl, odOS rfl, od rfl, od rfl, trivial⟩
  have hS0 := hS
  have hS := st_freeze 1 4 hS rfl rfl
  have hS := st_also (t := 4) (q := 58) hS0 hS rfl rfl rfl
  obtain ⟨v_25, e_26, h⟩ := bind_some h
  obtain ⟨v_27, e_28, h⟩ := bind_some h
  obtain ⟨v_29, e_30, h⟩ := bind_some h
  obtain ⟨v_31, e_32, h⟩ := bind_some h
  obtain ⟨v_33, e_34, h⟩ := bind_some h
  obtain ⟨v_35, e_36, h⟩ := bind_some h
  have hS := hS.weak (Δ := [(0, isV (α := ByteArray) p0), (2, Pr.ptr b_1), (4, isV (α := List Int) s_3.2), (5, isV (α := Int) s_3.1), (15, isV (α := Int) s_3.1), (16, isV (α := ByteArray) p0), (17, isV (α := Int) (p0.size : Int)), (18, isV (α := Bool) (decide (s_3.1 < (p0.size : Int)))), (58, isV (α := List Int) s_3.2), (59, isV (α := Int) (s_3.2.length : Int)), (60, isV (α := Bool) ((s_3.2.length : Int) != 6))]) ⟨od rfl, od rfl, od rfl, od rfl, od rfl, od rfl, od rfl, od rfl, od rfl, od rfl, od rfl, trivial⟩
  refine st_pairs mixed [0, 0, 0, 0, 0, 0, 0, 0, 0, 0, 0, 0, 0, 0, 0, 0, 0, 0, 0, 3, 4] [⟨19, 20, 7, 23, S_api_Turn, inferInstance, ((0, 0, 0, 0, 0, 0) : S_api_Turn), ((v_25, v_27, v_29, v_31, v_33, v_35) : S_api_Turn)⟩] (by kernel_rfl) (by kernel_rfl) hS ⟨fun _ _ _ _ h => h, fun _ _ _ _ h => h, fun _ _ _ _ h => h, fun _ _ _ _ h => h, fun _ _ _ _ h => h, fun _ _ _ _ h => h, fun _ _ _ _ h => h, fun _ _ _ _ h => h, fun _ _ _ _ h => h, fun _ _ _ _ h => h, fun _ _ _ _ h => h, trivial⟩ ?_
  refine sq0 (fun _ _ _ _ h => h) (sg (sp_move (od rfl))) ?_
  refine sq0 (fun _ _ _ _ h => h) (sg (sp_indexAddr sl39 (od rfl) (odi) e_26)) ?_
  refine sq0 (fun _ _ _ _ h => h) (sg (sp_load ty3 (od rfl))) ?_
  refine sq0 (fun _ _ _ _ h => h) (sg (sp_move (od rfl))) ?_
  refine sq0 (fun _ _ _ _ h => h) (sg (sp_indexAddr sl39 (od rfl) (odi) e_28)) ?_
  refine sq0 (fun _ _ _ _ h => h) (sg (sp_load ty3 (od rfl))) ?_
  refine sq0 (fun _ _ _ _ h => h) (sg (sp_move (od rfl))) ?_
  refine sq0 (fun _ _ _ _ h => h) (sg (sp_indexAddr sl39 (od rfl) (odi) e_30)) ?_
  refine sq0 (fun _ _ _ _ h => h) (sg (sp_load ty3 (od rfl))) ?_
  refine sq0 (fun _ _ _ _ h => h) (sg (sp_move (od rfl))) ?_
  refine sq0 (fun _ _ _ _ h => h) (sg (sp_indexAddr sl39 (od rfl) (odi) e_32)) ?_
  refine sq0 (fun _ _ _ _ h => h) (sg (sp_load ty3 (od rfl))) ?_
  refine sq0 (fun _ _ _ _ h => h) (sg (sp_move (od rfl))) ?_
  refine sq0 (fun _ _ _ _ h => h) (sg (sp_indexAddr sl39 (od rfl) (odi) e_34)) ?_
  refine sq0 (fun _ _ _ _ h => h) (sg (sp_load ty3 (od rfl))) ?_
  refine sq0 (fun _ _ _ _ h => h) (sg (sp_move (od rfl))) ?_
  refine sq0 (fun _ _ _ _ h => h) (sg (sp_indexAddr sl39 (od rfl) (odi) e_36)) ?_
  refine sq0 (fun _ _ _ _ h => h) (sg (sp_load ty3 (od rfl))) ?_
  refine sq0 (fun _ _ _ _ h => h) (sg (bd23_012345 (od rfl) (od rfl) (od rfl) (od rfl) (od rfl) (od rfl))) ?_
  refine sqA 0 rfl zi23 ?_
  refine sqS 0 rfl ty23 (od rfl) ?_
  refine sqN fun a w bs hl hS => ?_
  obtain ⟨b_37, rfl⟩ := len1 hl
  have hS : St _ F0 [Item.box (α := S_api_Turn) 23 b_1 ((0, 0, 0, 0, 0, 0) : S_api_Turn), Item.box (α := S_api_Turn) 23 b_37 (((v_25, v_27, v_29, v_31, v_33, v_35) : S_api_Turn) : S_api_Turn)] ((7, Pr.ptr b_37) :: _) w0 _ _ := hS
  have hS := st_freezeB 1 7 hS rfl rfl
  refine et ?_
  refine ws ?_
  obtain ⟨v_38, e_39, h⟩ := bind_some h
  refine l_start ?_
  refine s_c hS (sg (sp_load ty23 (od rfl))) rfl fun a w hS hM => ?_
  refine s_callT en6 (f6_ok e_39) hT hS ⟨od rfl, trivial⟩ rfl fun a w hS hM => ?_
  refine s_c hS (sg (sp_move (od rfl))) rfl fun a w hS hM => ?_
  refine s_c hS (sg (sp_extract (od rfl) rfl)) rfl fun a w hS hM => ?_
  refine s_c hS (sg (sp_extract (od rfl) rfl)) rfl fun a w hS hM => ?_
  refine s_c hS (sg (sp_assign (od rfl))) rfl fun a w hS hM => ?_
  refine s_c hS (sg (sp_assign (od rfl))) rfl fun a w hS hM => ?_
  refine l_end ?_
  refine et ?_
  refine ws ?_
  refine ws ?_
  refine st_reg mixed (by kernel_rfl) hS ?_
  refine mv rfl ?_
  refine cg (sp_neq (od rfl) (odi)) ?_
  refine mv rfl ?_
  refine sc (sgF rfl fun hG => sp_move (od rfl)) ?_
  refine sc (sgF rfl fun hG => sp_move (od rfl)) ?_
  refine sc (sgF rfl fun hG => sp_neqStr (odw rfl hG) (odw rfl hG)) ?_
  refine cg (sp_pickOr (od rfl) fun hg => odw rfl (not_t hg)) ?_
  refine sn fun a w hS => ?_
  refine et ?_
  refine st_cond hS rfl (fun hb => ?_) (fun hb => ?_)
  · have h := ite_t hb h
    refine ws ?_
    refine l_start ?_
    refine s_c hS (sg (bd23_ )) rfl fun a w hS hM => ?_
    refine s_storeB (k := 0) (Δ := [(2, Pr.ptr b_1), (93, isV (α := S_api_Turn) ((0, 0, 0, 0, 0, 0) : S_api_Turn))]) ty23 hS rfl ⟨od rfl, od rfl, trivial⟩ ⟨fun _ _ _ _ h => h, fun _ _ _ _ h => h, trivial⟩ rfl (od rfl) fun w hS hM => ?_
    have hS : St _ F0 [Item.box (α := S_api_Turn) 23 b_1 ((0, 0, 0, 0, 0, 0) : S_api_Turn)] _ w0 _ _ := hS
    refine s_c hS (sg (sp_assign (odi))) rfl fun a w hS hM => ?_
    refine l_end ?_
    refine et ?_
    refine wp_ret ?_
    refine exit_thenR ?_
    have hS := st_freezeB 0 2 hS rfl rfl
    cases h
    obtain ⟨v, hr, hv⟩ := run_resC2 Tryz.results8 ty23 (hS.get rfl)
    exact st_ret hS hr ⟨_, rfl, hv, hS.get rfl, trivial⟩
  have h := ite_f hb h
  refine wp_skip ?_
  refine et ?_
  refine ws ?_
  refine l_start ?_
  refine s_c hS (sg (sp_load ty23 (od rfl))) rfl fun a w hS hM => ?_
  refine s_storeB (k := 0) (Δ := [(2, Pr.ptr b_1), (94, isV (α := S_api_Turn) (((v_25, v_27, v_29, v_31, v_33, v_35) : S_api_Turn) : S_api_Turn))]) ty23 hS rfl ⟨od rfl, od rfl, trivial⟩ ⟨fun _ _ _ _ h => h, fun _ _ _ _ h => h, trivial⟩ rfl (od rfl) fun w hS hM => ?_
  have hS : St _ F0 [Item.box (α := S_api_Turn) 23 b_1 (((v_25, v_27, v_29, v_31, v_33, v_35) : S_api_Turn) : S_api_Turn)] _ w0 _ _ := hS
  refine s_c hS (sg (sp_assign (odi))) rfl fun a w hS hM => ?_
  refine l_end ?_
  refine et ?_
  refine wp_ret ?_
  have hS := st_freezeB 0 2 hS rfl rfl
  cases h
  obtain ⟨v, hr, hv⟩ := run_resC2 Tryz.results8 ty23 (hS.get rfl)
  exact st_ret hS hr ⟨_, rfl, hv, hS.get rfl, trivial⟩

theorem f3_ok {fuel : Nat} {p0 : S_api_Turn} {p1 : ByteArray} {r : Bool} (h : M.f3 fuel p0 p1 = some r) : CallT Tryz.prog 3 [isV p0, isV p1] (isV r) := by
  unfold M.f3 at h
  refine callT_of Tryz.func3 rfl Tryz.ntmps3 rfl fun F0 w0 a hT hS => ?_
  refine ws ?_
  refine st_reg mixed (by kernel_rfl) hS ?_
  refine cg (sp_box (od rfl)) ?_
  refine cg (sp_assign (odb)) ?_
  refine sn fun a w hS => ?_
  refine et ?_
  refine ws ?_
  refine ws ?_
  obtain ⟨v_1, e_2, h⟩ := bind_some h
  refine l_start ?_
  refine s_callT en4 (f4_ok e_2) hT hS trivial rfl fun a w hS hM => ?_
  refine s_c hS (sg (sp_not (od rfl))) rfl fun a w hS hM => ?_
  refine l_end ?_
  refine et ?_
  refine st_cond hS rfl (fun hb => ?_) (fun hb => ?_)
  · have h := ite_t hb h
    refine ws ?_
    refine st_reg mixed (by kernel_rfl) hS ?_
    refine cg (sp_assign (odb)) ?_
    refine sn fun a w hS => ?_
    refine et ?_
    refine wp_ret ?_
    refine exit_thenR ?_
    cases h
    exact st_ret hS (run_results1 Tryz.results3 a w) (hS.get rfl)
  have h := ite_f hb h
  refine wp_skip ?_
  refine et ?_
  refine ws ?_
  refine ws ?_
  refine st_reg mixed (by kernel_rfl) hS ?_
  refine mv rfl ?_
  refine cg (sp_lenS Tryz.underlying9 (od rfl)) ?_
  refine cg (sp_gtr (od rfl) (odi)) ?_
  refine sn fun a w hS => ?_
  refine et ?_
  refine st_cond hS rfl (fun hb => ?_) (fun hb => ?_)
  · have h := ite_t hb h
    refine ws ?_
    refine st_reg mixed (by kernel_rfl) hS ?_
    refine cg (sp_assign (odb)) ?_
    refine sn fun a w hS => ?_
    refine et ?_
    refine wp_ret ?_
    refine exit_thenR ?_
    cases h
    exact st_ret hS (run_results1 Tryz.results3 a w) (hS.get rfl)
  have h := ite_f hb h
  refine wp_skip ?_
  refine et ?_
  refine ws ?_
  obtain ⟨v_3, e_4, h⟩ := bind_some h
  refine l_start ?_
  refine s_c hS (sg (sp_load ty23 (od rfl))) rfl fun a w hS hM => ?_
  refine s_callT en5 (f5_ok e_4) hT hS ⟨od rfl, trivial⟩ rfl fun a w hS hM => ?_
  refine s_c hS (sg (sp_move (od rfl))) rfl fun a w hS hM => ?_
  refine s_c hS (sg (sp_extract (od rfl) rfl)) rfl fun a w hS hM => ?_
  refine s_c hS (sg (sp_extract (od rfl) rfl)) rfl fun a w hS hM => ?_
  refine s_c hS (sg (sp_assign (od rfl))) rfl fun a w hS hM => ?_
  refine s_c hS (sg (sp_assign (od rfl))) rfl fun a w hS hM => ?_
  refine l_end ?_
  refine et ?_
  refine ws ?_
  obtain ⟨v_5, e_6, h⟩ := bind_some h
  refine l_start ?_
  refine s_c hS (sg (sp_load ty23 (od rfl))) rfl fun a w hS hM => ?_
  refine s_callT en6 (f6_ok e_6) hT hS ⟨od rfl, trivial⟩ rfl fun a w hS hM => ?_
  refine s_c hS (sg (sp_move (od rfl))) rfl fun a w hS hM => ?_
  refine s_c hS (sg (sp_extract (od rfl) rfl)) rfl fun a w hS hM => ?_
  refine s_c hS (sg (sp_extract (od rfl) rfl)) rfl fun a w hS hM => ?_
  refine s_c hS (sg (sp_assign (od rfl))) rfl fun a w hS hM => ?_
  refine s_c hS (sg (sp_assign (od rfl))) rfl fun a w hS hM => ?_
  refine l_end ?_
  refine et ?_
  refine ws ?_
  obtain ⟨v_7, e_8, h⟩ := bind_some h
  refine l_start ?_
  refine s_c hS (sg (sp_move (od rfl))) rfl fun a w hS hM => ?_
  refine s_callT en7 (f7_ok e_8) hT hS ⟨od rfl, trivial⟩ rfl fun a w hS hM => ?_
  refine s_c hS (sg (sp_move (od rfl))) rfl fun a w hS hM => ?_
  refine s_c hS (sg (sp_extract (od rfl) rfl)) rfl fun a w hS hM => ?_
  refine s_c hS (sg (sp_extract (od rfl) rfl)) rfl fun a w hS hM => ?_
  refine s_allocStore ze23 hS (od rfl) (fun k hk => by cases hk; rfl) rfl fun a w hS hM => ?_
  refine s_c hS (sg (sp_assign (od rfl))) rfl fun a w hS hM => ?_
  refine l_end ?_
  refine et ?_
  refine ws ?_
  obtain ⟨v_9, e_10, h⟩ := bind_some h
  refine l_start ?_
  refine s_c hS (sg (sp_move (od rfl))) rfl fun a w hS hM => ?_
  refine s_callT en8 (f8_ok e_10) hT hS ⟨od rfl, trivial⟩ rfl fun a w hS hM => ?_
  refine s_c hS (sg (sp_move (od rfl))) rfl fun a w hS hM => ?_
  refine s_c hS (sg (sp_extract (od rfl) rfl)) rfl fun a w hS hM => ?_
  refine s_c hS (sg (sp_extract (od rfl) rfl)) rfl fun a w hS hM => ?_
  refine s_allocStore ze23 hS (od rfl) (fun k hk => by cases hk; rfl) rfl fun a w hS hM => ?_
  refine s_c hS (sg (sp_assign (od rfl))) rfl fun a w hS hM => ?_
  refine l_end ?_
  refine et ?_
  refine ws ?_
  refine ws ?_
  refine st_reg mixed (by kernel_rfl) hS ?_
  refine mv rfl ?_
  refine mv rfl ?_
  refine cg (sp_neqStr (od rfl) (od rfl)) ?_
  refine mv rfl ?_
  refine sc (sgF rfl fun hG => sp_move (od rfl)) ?_
  refine sc (sgF rfl fun hG => sp_move (od rfl)) ?_
  refine sc (sgF rfl fun hG => sp_neq (odw rfl hG) (odw rfl hG)) ?_
  refine cg (sp_pickOr (od rfl) fun hg => odw rfl (not_t hg)) ?_
  refine mv rfl ?_
  refine sc (sgF rfl fun hG => sp_load ty23 (od rfl)) ?_
  refine sc (sgF rfl fun hG => sp_load ty23 (od rfl)) ?_
  refine sc (sgF rfl fun hG => sp_neqS eq23 rfl eg23 rfl (odw rfl hG) (odw rfl hG)) ?_
  refine cg (sp_pickOr (od rfl) fun hg => odw rfl (not_t hg)) ?_
  refine mv rfl ?_
  refine sc (sgF rfl fun hG => sp_move (od rfl)) ?_
  refine sc (sgF rfl fun hG => sp_move (od rfl)) ?_
  refine sc (sgF rfl fun hG => sp_neq (odw rfl hG) (odw rfl hG)) ?_
  refine cg (sp_pickOr (od rfl) fun hg => odw rfl (not_t hg)) ?_
  refine sn fun a w hS => ?_
  refine et ?_
  refine st_cond hS rfl (fun hb => ?_) (fun hb => ?_)
  · have h := ite_t hb h
    refine ws ?_
    refine st_reg mixed (by kernel_rfl) hS ?_
    refine cg (sp_assign (odb)) ?_
    refine sn fun a w hS => ?_
    refine et ?_
    refine wp_ret ?_
    refine exit_thenR ?_
    cases h
    exact st_ret hS (run_results1 Tryz.results3 a w) (hS.get rfl)
  have h := ite_f hb h
  refine wp_skip ?_
  refine et ?_
  refine ws ?_
  refine ws ?_
  refine st_reg mixed (by kernel_rfl) hS ?_
  refine mv rfl ?_
  refine cg (sp_eql (od rfl) (odi)) ?_
  refine sn fun a w hS => ?_
  refine et ?_
  refine st_cond hS rfl (fun hb => ?_) (fun hb => ?_)
  · have h := ite_t hb h
    refine ws ?_
    obtain ⟨v_11, e_12, h⟩ := bind_some h
    refine l_start ?_
    refine s_c hS (sg (sp_move (od rfl))) rfl fun a w hS hM => ?_
    refine s_callT en7 (f7_ok e_12) hT hS ⟨od rfl, trivial⟩ rfl fun a w hS hM => ?_
    refine s_c hS (sg (sp_move (od rfl))) rfl fun a w hS hM => ?_
    refine s_c hS (sg (sp_extract (od rfl) rfl)) rfl fun a w hS hM => ?_
    refine s_c hS (sg (sp_extract (od rfl) rfl)) rfl fun a w hS hM => ?_
    refine s_allocStore ze23 hS (od rfl) (fun k hk => by cases hk; rfl) rfl fun a w hS hM => ?_
    refine s_c hS (sg (sp_assign (od rfl))) rfl fun a w hS hM => ?_
    refine l_end ?_
    refine et ?_
    refine ws ?_
    refine st_reg mixed (by kernel_rfl) hS ?_
    refine mv rfl ?_
    refine cg (sp_neq (od rfl) (odi)) ?_
    refine mv rfl ?_
    refine sc (sgF rfl fun hG => sp_load ty23 (od rfl)) ?_
    refine sc (sgF rfl fun hG => sp_load ty23 (od rfl)) ?_
    refine sc (sgF rfl fun hG => sp_neqS eq23 rfl eg23 rfl (odw rfl hG) (odw rfl hG)) ?_
    refine cg (sp_pickOr (od rfl) fun hg => odw rfl (not_t hg)) ?_
    refine sn fun a w hS => ?_
    refine et ?_
    refine st_cond hS rfl (fun hb => ?_) (fun hb => ?_)
    · have h := ite_t hb h
      refine ws ?_
      refine st_reg mixed (by kernel_rfl) hS ?_
      refine cg (sp_assign (odb)) ?_
      refine sn fun a w hS => ?_
      refine et ?_
      refine wp_ret ?_
      refine exit_thenR ?_
      cases h
      exact st_ret hS (run_results1 Tryz.results3 a w) (hS.get rfl)
    have h := ite_f hb h
    refine wp_skip ?_
    refine et ?_
    refine ws ?_
    refine ws ?_
    refine st_reg mixed (by kernel_rfl) hS ?_
    refine mv rfl ?_
    refine cg (sp_eql (od rfl) (odi)) ?_
    refine sn fun a w hS => ?_
    refine et ?_
    refine st_cond hS rfl (fun hb => ?_) (fun hb => ?_)
    · have h := ite_t hb h
      refine ws ?_
      obtain ⟨v_13, e_14, h⟩ := bind_some h
      refine l_start ?_
      refine s_c hS (sg (sp_load ty23 (od rfl))) rfl fun a w hS hM => ?_
      refine s_callT en5 (f5_ok e_14) hT hS ⟨od rfl, trivial⟩ rfl fun a w hS hM => ?_
      refine s_c hS (sg (sp_move (od rfl))) rfl fun a w hS hM => ?_
      refine s_c hS (sg (sp_extract (od rfl) rfl)) rfl fun a w hS hM => ?_
      refine s_c hS (sg (sp_extract (od rfl) rfl)) rfl fun a w hS hM => ?_
      refine s_c hS (sg (sp_assign (od rfl))) rfl fun a w hS hM => ?_
      refine s_c hS (sg (sp_assign (od rfl))) rfl fun a w hS hM => ?_
      refine l_end ?_
      refine et ?_
      refine ws ?_
      refine st_reg mixed (by kernel_rfl) hS ?_
      refine mv rfl ?_
      refine cg (sp_neq (od rfl) (odi)) ?_
      refine mv rfl ?_
      refine sc (sgF rfl fun hG => sp_move (od rfl)) ?_
      refine sc (sgF rfl fun hG => sp_move (od rfl)) ?_
      refine sc (sgF rfl fun hG => sp_neqStr (odw rfl hG) (odw rfl hG)) ?_
      refine cg (sp_pickOr (od rfl) fun hg => odw rfl (not_t hg)) ?_
      refine sn fun a w hS => ?_
      refine et ?_
      refine st_cond hS rfl (fun hb => ?_) (fun hb => ?_)
      · have h := ite_t hb h
        refine ws ?_
        refine st_reg mixed (by kernel_rfl) hS ?_
        refine cg (sp_assign (odb)) ?_
        refine sn fun a w hS => ?_
        refine et ?_
        refine wp_ret ?_
        refine exit_thenR ?_
        cases h
        exact st_ret hS (run_results1 Tryz.results3 a w) (hS.get rfl)
      have h := ite_f hb h
      refine wp_skip ?_
      refine et ?_
      refine ws ?_
      refine st_reg mixed (by kernel_rfl) hS ?_
      refine cg (sp_assign (odb)) ?_
      refine sn fun a w hS => ?_
      refine et ?_
      refine wp_ret ?_
      cases h
      exact st_ret hS (run_results1 Tryz.results3 a w) (hS.get rfl)
    have h := ite_f hb h
    refine wp_skip ?_
    refine et ?_
    refine ws ?_
    refine st_reg mixed (by kernel_rfl) hS ?_
    refine cg (sp_assign (odb)) ?_
    refine sn fun a w hS => ?_
    refine et ?_
    refine wp_ret ?_
    cases h
    exact st_ret hS (run_results1 Tryz.results3 a w) (hS.get rfl)
  have h := ite_f hb h
  refine wp_skip ?_
  refine et ?_
  refine ws ?_
  refine ws ?_
  refine st_reg mixed (by kernel_rfl) hS ?_
  refine mv rfl ?_
  refine cg (sp_eql (od rfl) (odi)) ?_
  refine sn fun a w hS => ?_
  refine et ?_
  refine st_cond hS rfl (fun hb => ?_) (fun hb => ?_)
  · have h := ite_t hb h
    refine ws ?_
    obtain ⟨v_15, e_16, h⟩ := bind_some h
    refine l_start ?_
    refine s_c hS (sg (sp_load ty23 (od rfl))) rfl fun a w hS hM => ?_
    refine s_callT en5 (f5_ok e_16) hT hS ⟨od rfl, trivial⟩ rfl fun a w hS hM => ?_
    refine s_c hS (sg (sp_move (od rfl))) rfl fun a w hS hM => ?_
    refine s_c hS (sg (sp_extract (od rfl) rfl)) rfl fun a w hS hM => ?_
    refine s_c hS (sg (sp_extract (od rfl) rfl)) rfl fun a w hS hM => ?_
    refine s_c hS (sg (sp_assign (od rfl))) rfl fun a w hS hM => ?_
    refine s_c hS (sg (sp_assign (od rfl))) rfl fun a w hS hM => ?_
    refine l_end ?_
    refine et ?_
    refine ws ?_
    refine st_reg mixed (by kernel_rfl) hS ?_
    refine mv rfl ?_
    refine cg (sp_neq (od rfl) (odi)) ?_
    refine mv rfl ?_
    refine sc (sgF rfl fun hG => sp_move (od rfl)) ?_
    refine sc (sgF rfl fun hG => sp_move (od rfl)) ?_
    refine sc (sgF rfl fun hG => sp_neqStr (odw rfl hG) (odw rfl hG)) ?_
    refine cg (sp_pickOr (od rfl) fun hg => odw rfl (not_t hg)) ?_
    refine sn fun a w hS => ?_
    refine et ?_
    refine st_cond hS rfl (fun hb => ?_) (fun hb => ?_)
    · have h := ite_t hb h
      refine ws ?_
      refine st_reg mixed (by kernel_rfl) hS ?_
      refine cg (sp_assign (odb)) ?_
      refine sn fun a w hS => ?_
      refine et ?_
      refine wp_ret ?_
      refine exit_thenR ?_
      cases h
      exact st_ret hS (run_results1 Tryz.results3 a w) (hS.get rfl)
    have h := ite_f hb h
    refine wp_skip ?_
    refine et ?_
    refine ws ?_
    refine st_reg mixed (by kernel_rfl) hS ?_
    refine cg (sp_assign (odb)) ?_
    refine sn fun a w hS => ?_
    refine et ?_
    refine wp_ret ?_
    cases h
    exact st_ret hS (run_results1 Tryz.results3 a w) (hS.get rfl)
  have h := ite_f hb h
  refine wp_skip ?_
  refine et ?_
  refine ws ?_
  refine st_reg mixed (by kernel_rfl) hS ?_
  refine cg (sp_assign (odb)) ?_
  refine sn fun a w hS => ?_
  refine et ?_
  refine wp_ret ?_
  cases h
  exact st_ret hS (run_results1 Tryz.results3 a w) (hS.get rfl)

end Go.Proofs.YtnnhmgcigoiceaaGreatDoor
