/-
  What is proved: each Go function named here returns what its model tells, and changes nothing that was there; where the model tells something.
-/
import Derived.Test.YthogdhepjcomjaaGreatDoorWalkE
import Derived.Test.YthogdhepjcomjaaGreatDoorModelL
set_option linter.unusedVariables false
set_option maxRecDepth 100000
namespace Go.Proofs.YthogdhepjcomjaaGreatDoor
open Go Go.RowKit Go.Proofs.YthogdhepjcomjaaGreatDoor.Wh

theorem f41_ok {p0 : Int} {c0 : Int} {c1 : Int} {r : Int} (h : M.f41 p0 c0 c1 = some r) : CallOK Tryz.prog 41 [isV p0, isA c0, isA c1] (isV r) := by
  unfold M.f41 at h
  refine callS_of Tryz.func41 rfl Tryz.ntmps41 rfl fun F0 w0 a hS => ?_
  refine ws ?_
  refine st_reg mixed (by kernel_rfl) hS ?_
  refine cg (sp_assign (odi)) ?_
  refine sn fun a w hS => ?_
  refine et ?_
  refine ws ?_
  refine ws ?_
  refine st_reg mixed (by kernel_rfl) hS ?_
  refine mv rfl ?_
  refine sn fun a w hS => ?_
  refine et ?_
  refine wp_block ?_
  refine ws ?_
  refine st_reg mixed (by kernel_rfl) hS ?_
  refine cg (sp_load ty3 (od rfl)) ?_
  refine cg (sp_eql (od rfl) (od rfl)) ?_
  refine cg (sp_assign (od rfl)) ?_
  refine sn fun a w hS => ?_
  refine et ?_
  refine st_cond hS rfl (fun hb => ?_) (fun hb => ?_)
  · have h := ite_t hb h
    refine ws ?_
    refine st_reg mixed (by kernel_rfl) hS ?_
    refine cg (sp_load ty3 (od rfl)) ?_
    refine cg (sp_assign (od rfl)) ?_
    refine sn fun a w hS => ?_
    refine et ?_
    refine wp_ret ?_
    refine exit_blockR ?_
    refine exit_thenR ?_
    cases h
    exact st_ret hS (run_results1 Tryz.results41 a w) (hS.get rfl)
  have h := ite_f hb h
  refine ws ?_
  refine st_reg mixed (by kernel_rfl) hS ?_
  refine cg (sp_load ty3 (od rfl)) ?_
  refine cg (sp_eql (od rfl) (od rfl)) ?_
  refine cg (sp_assign (od rfl)) ?_
  refine sn fun a w hS => ?_
  refine et ?_
  refine st_cond hS rfl (fun hb => ?_) (fun hb => ?_)
  · have h := ite_t hb h
    refine ws ?_
    refine st_reg mixed (by kernel_rfl) hS ?_
    refine cg (sp_load ty3 (od rfl)) ?_
    refine cg (sp_assign (od rfl)) ?_
    refine sn fun a w hS => ?_
    refine et ?_
    refine wp_ret ?_
    refine exit_blockR ?_
    refine exit_thenR ?_
    cases h
    exact st_ret hS (run_results1 Tryz.results41 a w) (hS.get rfl)
  have h := ite_f hb h
  refine wp_skip ?_
  refine exit_block ?_
  refine et ?_
  refine ws ?_
  refine st_reg mixed (by kernel_rfl) hS ?_
  refine mv rfl ?_
  refine cg (sp_assign (od rfl)) ?_
  refine sn fun a w hS => ?_
  refine et ?_
  refine wp_ret ?_
  cases h
  exact st_ret hS (run_results1 Tryz.results41 a w) (hS.get rfl)

theorem f7_ok {fuel : Nat} {p0 : S_api_Roster} {p1 : Int} {p2 : Int} {p3 : Int} {p4 : Int} {r : Bool} (h : M.f7 fuel p0 p1 p2 p3 p4 = some r) : CallT Tryz.prog 7 [isV p0, isV p1, isV p2, isV p3, isV p4] (isV r) := by
  unfold M.f7 at h
  refine callT_of Tryz.func7 rfl Tryz.ntmps7 rfl fun F0 w0 a hT hS => ?_
  refine ws ?_
  refine st_reg mixed (by kernel_rfl) hS ?_
  refine cg (sp_box (od rfl)) ?_
  refine cg (sp_box (od rfl)) ?_
  refine cg (sp_box (od rfl)) ?_
  refine cg (sp_assign (odb)) ?_
  refine sn fun a w hS => ?_
  refine et ?_
  refine ws ?_
  refine ws ?_
  obtain ⟨v_1, e_2, h⟩ := bind_some h
  refine l_start ?_
  refine s_callT en16 (f16_ok e_2) hT hS trivial rfl fun a w hS hM => ?_
  refine s_c hS (sg (sp_not (od rfl))) rfl fun a w hS hM => ?_
  refine l_end ?_
  refine et ?_
  refine st_cond hS rfl (fun hb => ?_) (fun hb => ?_)
  · have h := ite_t hb h
    refine ws ?_
    refine st_reg mixed (by kernel_rfl) hS ?_
    refine cg (sp_assign (odb)) ?_
    refine sn fun a w hS => ?_
    refine et ?_
    refine wp_ret ?_
    refine exit_thenR ?_
    cases h
    exact st_ret hS (run_results1 Tryz.results7 a w) (hS.get rfl)
  have h := ite_f hb h
  refine wp_skip ?_
  refine et ?_
  refine ws ?_
  refine ws ?_
  obtain ⟨v_3, e_4, h⟩ := bind_some h
  refine st_reg mixed (by kernel_rfl) hS ?_
  refine cg (sp_load ty25 (od rfl)) ?_
  refine cg (sp_call en33 (f33_ok e_4) ⟨od rfl, trivial⟩) ?_
  refine cg (sp_not (od rfl)) ?_
  refine mv rfl ?_
  refine sc (sgF rfl fun hG => sp_move (od rfl)) ?_
  refine sc (sgF rfl fun hG => sp_lss (odw rfl hG) (odi)) ?_
  refine cg (sp_pickOr (od rfl) fun hg => odw rfl (not_t hg)) ?_
  refine mv rfl ?_
  refine sc (sgF rfl fun hG => sp_move (od rfl)) ?_
  refine sc (sgF rfl fun hG => sp_fieldAddr fd25_0 (od rfl)) ?_
  refine sc (sgF rfl fun hG => sp_load ty3 (odw rfl hG)) ?_
  refine sc (sgF rfl fun hG => sp_geq (odw rfl hG) (odw rfl hG)) ?_
  refine cg (sp_pickOr (od rfl) fun hg => odw rfl (not_t hg)) ?_
  refine mv rfl ?_
  refine sc (sgF rfl fun hG => sp_move (od rfl)) ?_
  refine sc (sgF rfl fun hG => sp_lss (odw rfl hG) (odi)) ?_
  refine cg (sp_pickOr (od rfl) fun hg => odw rfl (not_t hg)) ?_
  refine mv rfl ?_
  refine sc (sgF rfl fun hG => sp_move (od rfl)) ?_
  refine sc (sgF rfl fun hG => sp_gtr (odw rfl hG) (odi)) ?_
  refine cg (sp_pickOr (od rfl) fun hg => odw rfl (not_t hg)) ?_
  refine mv rfl ?_
  refine sc (sgF rfl fun hG => sp_load ty3 (od rfl)) ?_
  refine sc (sgF rfl fun hG => sp_lss (odw rfl hG) (odi)) ?_
  refine cg (sp_pickOr (od rfl) fun hg => odw rfl (not_t hg)) ?_
  refine mv rfl ?_
  refine sc (sgF rfl fun hG => sp_load ty3 (od rfl)) ?_
  refine sc (sgF rfl fun hG => sp_fieldAddr fd25_3 (od rfl)) ?_
  refine sc (sgF rfl fun hG => sp_load ty22 (odw rfl hG)) ?_
  refine sc (sgF rfl fun hG => sp_len Tryz.underlying22 (odw rfl hG)) ?_
  refine sc (sgF rfl fun hG => sp_geq (odw rfl hG) (odw rfl hG)) ?_
  refine cg (sp_pickOr (od rfl) fun hg => odw rfl (not_t hg)) ?_
  refine mv rfl ?_
  refine sc (sgF rfl fun hG => sp_load ty3 (od rfl)) ?_
  refine sc (sgF rfl fun hG => sp_lss (odw rfl hG) (odi)) ?_
  refine cg (sp_pickOr (od rfl) fun hg => odw rfl (not_t hg)) ?_
  refine mv rfl ?_
  refine sc (sgF rfl fun hG => sp_load ty3 (od rfl)) ?_
  refine sc (sgF rfl fun hG => sp_fieldAddr fd25_3 (od rfl)) ?_
  refine sc (sgF rfl fun hG => sp_load ty22 (odw rfl hG)) ?_
  refine sc (sgF rfl fun hG => sp_len Tryz.underlying22 (odw rfl hG)) ?_
  refine sc (sgF rfl fun hG => sp_geq (odw rfl hG) (odw rfl hG)) ?_
  refine cg (sp_pickOr (od rfl) fun hg => odw rfl (not_t hg)) ?_
  refine sn fun a w hS => ?_
  refine et ?_
  refine st_cond hS rfl (fun hb => ?_) (fun hb => ?_)
  · have h := ite_t hb h
    refine ws ?_
    refine st_reg mixed (by kernel_rfl) hS ?_
    refine cg (sp_assign (odb)) ?_
    refine sn fun a w hS => ?_
    refine et ?_
    refine wp_ret ?_
    refine exit_thenR ?_
    cases h
    exact st_ret hS (run_results1 Tryz.results7 a w) (hS.get rfl)
  have h := ite_f hb h
  refine wp_skip ?_
  refine et ?_
  refine ws ?_
  refine st_reg mixed (by kernel_rfl) hS ?_
  refine cg (mk_fn51 (f := (fun x0 => M.f41 x0 p3 p4)) (κs := [isA (α := Int) p3, isA (α := Int) p4]) ⟨fun _ _ _ _ h => h, fun _ _ _ _ h => h, trivial⟩ en41 ⟨od rfl, od rfl, trivial⟩ (fun _ _ h => f41_ok h)) ?_
  refine cg (sp_assign (od rfl)) ?_
  refine sn fun a w hS => ?_
  refine et ?_
  refine ws ?_
  refine l_start ?_
  refine s_c hS (sg (sp_fieldAddr fd25_0 (od rfl))) rfl fun a w hS hM => ?_
  refine s_c hS (sg (sp_load ty3 (od rfl))) rfl fun a w hS hM => ?_
  refine s_c hS (sg (sp_fieldAddr fd25_1 (od rfl))) rfl fun a w hS hM => ?_
  refine s_c hS (sg (sp_load ty3 (od rfl))) rfl fun a w hS hM => ?_
  refine s_c hS (sg (sp_move (od rfl))) rfl fun a w hS hM => ?_
  refine s_c hS (sg (sp_add (od rfl) (od rfl))) rfl fun a w hS hM => ?_
  refine s_c hS (sg (sp_fieldAddr fd25_2 (od rfl))) rfl fun a w hS hM => ?_
  refine s_c hS (sg (sp_load ty3 (od rfl))) rfl fun a w hS hM => ?_
  refine s_c hS (sg (sp_move (od rfl))) rfl fun a w hS hM => ?_
  refine s_c hS (sg (sp_add (od rfl) (od rfl))) rfl fun a w hS hM => ?_
  refine s_c hS (sg (bdR25_012_34 (od rfl) (od rfl) (od rfl))) rfl fun a w hS hM => ?_
  refine s_alloc ziR25_34 hS rfl fun a w b_5 hS hM => ?_
  have hS : St _ F0 [Item.box (α := Int × Int × Int × Raw × Raw) 25 b_5 ((0 : Int), (0 : Int), (0 : Int), (Raw.mk (.slice none 0 0)), (Raw.mk (.slice none 0 0)))] _ w0 _ _ := hS
  have hS := st_nil (α := List Int) 26 hS
  have hS := st_nil (α := S_api_Turn) 45 hS
  have hS : St _ F0 [Item.box (α := Int × Int × Int × Raw × Raw) 25 b_5 ((0 : Int), (0 : Int), (0 : Int), (Raw.mk (.slice none 0 0)), (Raw.mk (.slice none 0 0))), Item.sl (α := List Int) 26 (.slice none 0 0) ([] : List (List Int)), Item.sl (α := S_api_Turn) 45 (.slice none 0 0) ([] : List S_api_Turn)] _ w0 _ _ := hS
  refine s_storeB (k := 0) (Δ := [(1, isV (α := Int) p1), (2, isV (α := Int) p2), (5, isA (α := S_api_Roster) p0), (11, isV (α := (Int → Option Int)) ((fun x0 => M.f41 x0 p3 p4) : (Int → Option Int))), (12, Pr.ptr b_5), (90, isV (α := Int × Int × Int × Raw × Raw) (p0.1, (wr (p0.2.1 + p2)), (wr (p0.2.2.1 + p2)), (Raw.mk (.slice none 0 0)), (Raw.mk (.slice none 0 0))))]) tyR25_34 hS rfl ⟨od rfl, od rfl, od rfl, od rfl, od rfl, od rfl, trivial⟩ ⟨fun _ _ _ _ h => h, fun _ _ _ _ h => h, fun _ _ _ _ h => h, fun _ _ _ _ h => h, fun _ _ _ _ h => h, fun _ _ _ _ h => h, trivial⟩ rfl (od rfl) fun w hS hM => ?_
  have hS : St _ F0 [Item.box (α := Int × Int × Int × Raw × Raw) 25 b_5 (p0.1, (wr (p0.2.1 + p2)), (wr (p0.2.2.1 + p2)), (Raw.mk (.slice none 0 0)), (Raw.mk (.slice none 0 0))), Item.sl (α := List Int) 26 (.slice none 0 0) ([] : List (List Int)), Item.sl (α := S_api_Turn) 45 (.slice none 0 0) ([] : List S_api_Turn)] _ w0 _ _ := hS
  refine l_end ?_
  refine et ?_
  refine ws ?_
  refine ws ?_
  refine st_reg mixed (by kernel_rfl) hS ?_
  refine cg (sp_fieldAddr fd25_3 (od rfl)) ?_
  refine cg (sp_load ty22 (od rfl)) ?_
  refine cg (sp_len Tryz.underlying22 (od rfl)) ?_
  refine cg (sp_move (odi)) ?_
  refine sn fun a w hS => ?_
  refine et ?_
  refine wp_block ?_
  obtain ⟨o_9, e_10, hr_11⟩ := bind_some h
  refine c_loop (fun K a w => ∃ k i_6 s_8, ∃ u_12 : Value, K = k + 1 ∧ ForT _ _ _ o_9 k i_6 s_8 ∧ St 241 F0 [Item.box (α := Int × Int × Int × Raw × Raw) 25 b_5 (p0.1, (wr (p0.2.1 + p2)), (wr (p0.2.2.1 + p2)), (Raw.mk u_12), (Raw.mk (.slice none 0 0))), Item.sl (α := List Int) 26 u_12 s_8, Item.sl (α := S_api_Turn) 45 (.slice none 0 0) ([] : List S_api_Turn)] [(1, isV (α := Int) p1), (2, isV (α := Int) p2), (5, isA (α := S_api_Roster) p0), (11, isV (α := (Int → Option Int)) ((fun x0 => M.f41 x0 p3 p4) : (Int → Option Int))), (12, Pr.ptr b_5), (93, isV (α := Int) (p0.2.2.2.1.length : Int)), (94, isV (α := Int) i_6)] w0 a w) ?_ ?_ ⟨_, _, _, (.slice none 0 0), rfl, fors_init e_10, hS.weak ⟨od rfl, od rfl, od rfl, od rfl, od rfl, od rfl, od rfl, trivial⟩⟩
  · rintro a w ⟨_, _, _, _, hk, _⟩; cases hk
  rintro K a w ⟨k_9, i_6, s_8, u_12, hk, hF_9, hS⟩
  obtain rfl := Nat.succ.inj hk
  refine ws ?_
  refine st_reg mixed (by kernel_rfl) hS ?_
  refine cg (sp_lss (od rfl) (od rfl)) ?_
  refine sn fun a w hS => ?_
  refine et ?_
  refine ws ?_
  refine st_cond hS rfl (fun hb => ?_) (fun hb => ?_)
  · refine wp_skip ?_
    refine et ?_
    obtain ⟨k_9, s', rfl, h, hF_9, hw_9⟩ := fors_more hF_9 hb
    refine ws ?_
    refine wp_block ?_
    refine ws ?_
    refine st_reg mixed (by kernel_rfl) hS ?_
    refine mv rfl ?_
    refine cg (sp_assign (od rfl)) ?_
    refine sn fun a w hS => ?_
    refine et ?_
    refine ws ?_
    refine st_reg mixed (by kernel_rfl) hS ?_
    refine cg (sp_assign (φ := Pr.is (.slice none 0 0)) (odc fun _ => rfl)) ?_
    refine sn fun a w hS => ?_
    have hS := st_nil (α := Int) 3 hS
    have hS : St _ F0 [Item.box (α := Int × Int × Int × Raw × Raw) 25 b_5 (p0.1, (wr (p0.2.1 + p2)), (wr (p0.2.2.1 + p2)), (Raw.mk u_12), (Raw.mk (.slice none 0 0))), Item.sl (α := List Int) 26 u_12 s_8, Item.sl (α := S_api_Turn) 45 (.slice none 0 0) ([] : List S_api_Turn), Item.sl (α := Int) 3 (.slice none 0 0) ([] : List Int)] _ w0 _ _ := hS
    refine et ?_
    refine ws ?_
    refine ws ?_
    refine st_reg mixed (by kernel_rfl) hS ?_
    refine cg (sp_fieldAddr fd25_3 (od rfl)) ?_
    refine cg (sp_load ty22 (od rfl)) ?_
    refine cg (sp_len Tryz.underlying22 (od rfl)) ?_
    refine cg (sp_move (odi)) ?_
    refine sn fun a w hS => ?_
    refine et ?_
    refine wp_block ?_
    obtain ⟨o_16, e_17, hr_18⟩ := bind_some h
    refine c_loop (fun K a w => ∃ k i_13 s_15, ∃ u_19 : Value, K = k + 1 ∧ ForT _ _ _ o_16 k i_13 s_15 ∧ St 241 F0 [Item.box (α := Int × Int × Int × Raw × Raw) 25 b_5 (p0.1, (wr (p0.2.1 + p2)), (wr (p0.2.2.1 + p2)), (Raw.mk u_12), (Raw.mk (.slice none 0 0))), Item.sl (α := List Int) 26 u_12 s_8, Item.sl (α := S_api_Turn) 45 (.slice none 0 0) ([] : List S_api_Turn), Item.sl (α := Int) 3 u_19 s_15] [(1, isV (α := Int) p1), (2, isV (α := Int) p2), (5, isA (α := S_api_Roster) p0), (11, isV (α := (Int → Option Int)) ((fun x0 => M.f41 x0 p3 p4) : (Int → Option Int))), (12, Pr.ptr b_5), (13, isV (α := Int) i_6), (14, Pr.is u_19), (93, isV (α := Int) (p0.2.2.2.1.length : Int)), (94, isV (α := Int) i_6), (99, isV (α := Int) (p0.2.2.2.1.length : Int)), (100, isV (α := Int) i_13)] w0 a w) ?_ ?_ ⟨_, _, _, (.slice none 0 0), rfl, fors_init e_17, hS.weak ⟨od rfl, od rfl, od rfl, od rfl, od rfl, od rfl, od rfl, od rfl, od rfl, od rfl, od rfl, trivial⟩⟩
    · rintro a w ⟨_, _, _, _, hk, _⟩; cases hk
    rintro K a w ⟨k_16, i_13, s_15, u_19, hk, hF_16, hS⟩
    obtain rfl := Nat.succ.inj hk
    refine ws ?_
    refine st_reg mixed (by kernel_rfl) hS ?_
    refine cg (sp_lss (od rfl) (od rfl)) ?_
    refine sn fun a w hS => ?_
    refine et ?_
    refine ws ?_
    refine st_cond hS rfl (fun hb => ?_) (fun hb => ?_)
    · refine wp_skip ?_
      refine et ?_
      obtain ⟨k_16, s', rfl, h, hF_16, hw_16⟩ := fors_more hF_16 hb
      refine ws ?_
      refine wp_block ?_
      refine ws ?_
      refine st_reg mixed (by kernel_rfl) hS ?_
      refine mv rfl ?_
      refine cg (sp_assign (od rfl)) ?_
      refine sn fun a w hS => ?_
      refine et ?_
      obtain ⟨v_20, e_21, h⟩ := bind_some h
      obtain ⟨v_22, e_23, h⟩ := bind_some h
      obtain ⟨v_24, e_25, h⟩ := bind_some h
      obtain ⟨v_26, e_27, h⟩ := bind_some h
      obtain ⟨z_28, e_29, h⟩ := bind_some h
      refine st_float mixed [0, 0, 0, 0, 0, 0, 0, 0, 0, 0, 0, 0, 0, 0, 2, 2] (by kernel_rfl) (by kernel_rfl) hS ?_
      refine sfA (sg (sp_move (od rfl))) ?_
      refine sfA (sg (sp_fieldAddr fd25_3 (od rfl))) ?_
      refine sfA (sg (sp_load ty22 (od rfl))) ?_
      refine sfA (sg (sp_move (od rfl))) ?_
      refine sfA (sg (sp_move (od rfl))) ?_
      refine sfA (sg (sp_callV (od_fn51 (od rfl)) ⟨od rfl, trivial⟩ e_21)) ?_
      refine sfA (sg (sp_indexAddr sl22 (od rfl) (od rfl) e_23)) ?_
      refine sfA (sg (sp_load ty26 (od rfl))) ?_
      refine sfA (sg (sp_move (od rfl))) ?_
      refine sfA (sg (sp_move (od rfl))) ?_
      refine sfA (sg (sp_callV (od_fn51 (od rfl)) ⟨od rfl, trivial⟩ e_25)) ?_
      refine sfA (sg (sp_indexAddr sl26 (od rfl) (od rfl) e_27)) ?_
      refine sfA (sg (sp_load ty3 (od rfl))) ?_
      refine sfA (sg (sp_buildSlice [.tmp 115] ([v_26] : List Int) sl26 ze3 rfl rfl rfl rfl ⟨od rfl, trivial⟩)) ?_
      refine sfT ?_
      refine sfT ?_
      refine sfN fun c a w hS hC => ?_
      refine ls ?_
      refine s_append (k := 3) (Δ := [(1, isV (α := Int) p1), (2, isV (α := Int) p2), (5, isA (α := S_api_Roster) p0), (11, isV (α := (Int → Option Int)) ((fun x0 => M.f41 x0 p3 p4) : (Int → Option Int))), (12, Pr.ptr b_5), (13, isV (α := Int) i_6), (93, isV (α := Int) (p0.2.2.2.1.length : Int)), (94, isV (α := Int) i_6), (99, isV (α := Int) (p0.2.2.2.1.length : Int)), (100, isV (α := Int) i_13), (103, Pr.is u_19), (116, isV (α := List Int) ([v_26] : List Int))]) sl26 ze3 hS rfl ⟨od rfl, od rfl, od rfl, od rfl, od rfl, od rfl, od rfl, od rfl, od rfl, od rfl, od rfl, od rfl, trivial⟩ ⟨fun _ _ _ _ h => h, fun _ _ _ _ h => h, fun _ _ _ _ h => h, fun _ _ _ _ h => h, fun _ _ _ _ h => h, fun _ _ _ _ h => h, fun _ _ _ _ h => h, fun _ _ _ _ h => h, fun _ _ _ _ h => h, fun _ _ _ _ h => h, fun _ _ _ _ h => h, fun _ _ _ _ h => h, trivial⟩ (od rfl) (od rfl) e_29 rfl fun a w u_30 hS hM => ?_
      have hS : St _ F0 [Item.box (α := Int × Int × Int × Raw × Raw) 25 b_5 (p0.1, (wr (p0.2.1 + p2)), (wr (p0.2.2.1 + p2)), (Raw.mk u_12), (Raw.mk (.slice none 0 0))), Item.sl (α := List Int) 26 u_12 s_8, Item.sl (α := S_api_Turn) 45 (.slice none 0 0) ([] : List S_api_Turn), Item.sl (α := Int) 3 u_30 z_28] _ w0 _ _ := hS
      have hC := Mem.le_trans hC hM
      refine s_next hC ?_
      refine ls ?_
      refine s_c hS (sg (sp_assign (od rfl))) rfl fun a w hS hM => ?_
      have hC := Mem.le_trans hC hM
      refine s_next hC ?_
      refine s_done ?_
      refine exit_block ?_
      refine et ?_
      refine st_reg mixed (by kernel_rfl) hS ?_
      refine cg (sp_add (od rfl) (odi)) ?_
      refine mv rfl ?_
      refine sn fun a w hS => ?_
      cases h
      exact ⟨k_16, _, _, u_30, rfl, hF_16, hS.weak ⟨od rfl, od rfl, od rfl, od rfl, od rfl, od rfl, od rfl, od rfl, od rfl, od rfl, od (congrArg (fun z => some (isV (α := Int) z)) hw_16), trivial⟩⟩
    refine wp_exit ?_
    obtain rfl := (fors_done hF_16 hb).symm
    have h := hr_18
    refine exit_thenE ?_
    refine exit_thenE ?_
    refine exit_here ?_
    refine et ?_
    have hS := st_freeze 3 14 hS rfl rfl
    obtain ⟨z_31, e_32, h⟩ := bind_some h
    refine l_start ?_
    have hS := st_box 0 12 hS rfl rfl
    refine s_c hS (sg (sp_fieldAddrB fdR25_34_3 (odB rfl))) rfl fun a w hS hM => ?_
    refine s_c hS (sg (sp_loadRaw tyR22_w (od rfl))) rfl fun a w hS hM => ?_
    refine s_c hS (sg (sp_move (od rfl))) rfl fun a w hS hM => ?_
    refine s_c hS (sg (sp_buildSlice [.tmp 121] ([s_15] : List (List Int)) sl22 ze26 rfl rfl rfl rfl ⟨od rfl, trivial⟩)) rfl fun a w hS hM => ?_
    refine s_append (k := 1) (Δ := [(1, isV (α := Int) p1), (2, isV (α := Int) p2), (5, isA (α := S_api_Roster) p0), (11, isV (α := (Int → Option Int)) ((fun x0 => M.f41 x0 p3 p4) : (Int → Option Int))), (12, Pr.ptr b_5), (93, isV (α := Int) (p0.2.2.2.1.length : Int)), (94, isV (α := Int) i_6), (120, Pr.is u_12), (122, isV (α := List (List Int)) ([s_15] : List (List Int)))]) sl22 ze26 hS rfl ⟨od rfl, od rfl, od rfl, od rfl, odBx rfl, od rfl, od rfl, od rfl, od rfl, trivial⟩ ⟨fun _ _ _ _ h => h, fun _ _ _ _ h => h, fun _ _ _ _ h => h, fun _ _ _ _ h => h, fun _ _ _ _ h => h, fun _ _ _ _ h => h, fun _ _ _ _ h => h, fun _ _ _ _ h => h, fun _ _ _ _ h => h, trivial⟩ (od rfl) (od rfl) e_32 rfl fun a w u_33 hS hM => ?_
    have hS : St _ F0 [Item.box (α := Int × Int × Int × Raw × Raw) 25 b_5 (p0.1, (wr (p0.2.1 + p2)), (wr (p0.2.2.1 + p2)), (Raw.mk u_12), (Raw.mk (.slice none 0 0))), Item.sl (α := List Int) 26 u_33 z_31, Item.sl (α := S_api_Turn) 45 (.slice none 0 0) ([] : List S_api_Turn)] _ w0 _ _ := hS
    refine s_c hS (sg (sp_fieldAddrP fo25_3 (od rfl))) rfl fun a w hS hM => ?_
    refine s_storeP (k := 0) (off := 3) (Δ := [(1, isV (α := Int) p1), (2, isV (α := Int) p2), (5, isA (α := S_api_Roster) p0), (11, isV (α := (Int → Option Int)) ((fun x0 => M.f41 x0 p3 p4) : (Int → Option Int))), (12, Pr.ptr b_5), (93, isV (α := Int) (p0.2.2.2.1.length : Int)), (94, isV (α := Int) i_6), (123, Pr.is u_33), (124, Pr.is (.pointer (some ⟨b_5, 3, none⟩)))]) tyR22_w hS rfl ⟨od rfl, od rfl, od rfl, od rfl, od rfl, od rfl, od rfl, od rfl, od rfl, trivial⟩ ⟨fun _ _ _ _ h => h, fun _ _ _ _ h => h, fun _ _ _ _ h => h, fun _ _ _ _ h => h, fun _ _ _ _ h => h, fun _ _ _ _ h => h, fun _ _ _ _ h => h, fun _ _ _ _ h => h, fun _ _ _ _ h => h, trivial⟩ (od rfl) (odRaw (od rfl) (hS.one (k := 1) rfl)) sf25_34_3 fun w hS hM => ?_
    have hS : St _ F0 [Item.box (α := Int × Int × Int × Raw × Raw) 25 b_5 (p0.1, (wr (p0.2.1 + p2)), (wr (p0.2.2.1 + p2)), (Raw.mk u_33), (Raw.mk (.slice none 0 0))), Item.sl (α := List Int) 26 u_33 z_31, Item.sl (α := S_api_Turn) 45 (.slice none 0 0) ([] : List S_api_Turn)] _ w0 _ _ := hS
    refine l_end ?_
    refine exit_block ?_
    refine et ?_
    refine st_reg mixed (by kernel_rfl) hS ?_
    refine cg (sp_add (od rfl) (odi)) ?_
    refine mv rfl ?_
    refine sn fun a w hS => ?_
    cases h
    exact ⟨k_9, _, _, u_33, rfl, hF_9, hS.weak ⟨od rfl, od rfl, od rfl, od rfl, od rfl, od rfl, od (congrArg (fun z => some (isV (α := Int) z)) hw_9), trivial⟩⟩
  refine wp_exit ?_
  obtain rfl := (fors_done hF_9 hb).symm
  have h := hr_11
  refine exit_thenE ?_
  refine exit_thenE ?_
  refine exit_here ?_
  refine et ?_
  refine ws ?_
  refine ws ?_
  refine st_reg mixed (by kernel_rfl) hS ?_
  refine cg (sp_fieldAddr fd25_4 (od rfl)) ?_
  refine cg (sp_load ty23 (od rfl)) ?_
  refine cg (sp_len Tryz.underlying23 (od rfl)) ?_
  refine cg (sp_move (odi)) ?_
  refine sn fun a w hS => ?_
  refine et ?_
  refine wp_block ?_
  obtain ⟨o_37, e_38, hr_39⟩ := bind_some h
  refine c_loop (fun K a w => ∃ k i_34 s_36, ∃ u_40 : Value, K = k + 1 ∧ ForT _ _ _ o_37 k i_34 s_36 ∧ St 241 F0 [Item.box (α := Int × Int × Int × Raw × Raw) 25 b_5 (p0.1, (wr (p0.2.1 + p2)), (wr (p0.2.2.1 + p2)), (Raw.mk u_12), (Raw.mk u_40)), Item.sl (α := List Int) 26 u_12 s_8, Item.sl (α := S_api_Turn) 45 u_40 s_36] [(1, isV (α := Int) p1), (2, isV (α := Int) p2), (5, isA (α := S_api_Roster) p0), (11, isV (α := (Int → Option Int)) ((fun x0 => M.f41 x0 p3 p4) : (Int → Option Int))), (12, Pr.ptr b_5), (127, isV (α := List S_api_Turn) p0.2.2.2.2), (128, isV (α := Int) (p0.2.2.2.2.length : Int)), (129, isV (α := Int) i_34)] w0 a w) ?_ ?_ ⟨_, _, _, (.slice none 0 0), rfl, fors_init e_38, hS.weak ⟨od rfl, od rfl, od rfl, od rfl, od rfl, od rfl, od rfl, od rfl, trivial⟩⟩
  · rintro a w ⟨_, _, _, _, hk, _⟩; cases hk
  rintro K a w ⟨k_37, i_34, s_36, u_40, hk, hF_37, hS⟩
  obtain rfl := Nat.succ.inj hk
  refine ws ?_
  refine st_reg mixed (by kernel_rfl) hS ?_
  refine cg (sp_lss (od rfl) (od rfl)) ?_
  refine sn fun a w hS => ?_
  refine et ?_
  refine ws ?_
  refine st_cond hS rfl (fun hb => ?_) (fun hb => ?_)
  · refine wp_skip ?_
    refine et ?_
    obtain ⟨k_37, s', rfl, h, hF_37, hw_37⟩ := fors_more hF_37 hb
    refine ws ?_
    refine wp_block ?_
    refine ws ?_
    obtain ⟨v_41, e_42, h⟩ := bind_some h
    refine l_start ?_
    refine s_c hS (sg (sp_indexAddr sl23 (od rfl) (od rfl) e_42)) rfl fun a w hS hM => ?_
    refine s_c hS (sg (sp_load ty45 (od rfl))) rfl fun a w hS hM => ?_
    refine s_allocStore ze45 hS (od rfl) (fun k hk => by cases hk; rfl) rfl fun a w hS hM => ?_
    refine l_end ?_
    refine et ?_
    have hS := st_box 0 12 hS rfl rfl
    obtain ⟨v_43, e_44, h⟩ := bind_some h
    obtain ⟨v_45, e_46, h⟩ := bind_some h
    obtain ⟨z_47, e_48, h⟩ := bind_some h
    refine st_float mixed [0, 0, 0, 0, 0, 0, 0, 0, 0, 0, 0, 0, 0, 0, 0, 0, 0, 0, 0, 0, 0, 0, 0, 0, 2, 2, 2] (by kernel_rfl) (by kernel_rfl) hS ?_
    refine sfA (sg (sp_fieldAddrB fdR25_34_4 (odB rfl))) ?_
    refine sfA (sg (sp_loadRaw tyR23_w (od rfl))) ?_
    refine sfA (sg (sp_fieldAddr fd45_0 (od rfl))) ?_
    refine sfA (sg (sp_load ty3 (od rfl))) ?_
    refine sfA (sg (sp_move (od rfl))) ?_
    refine sfA (sg (sp_fieldAddr fd45_1 (od rfl))) ?_
    refine sfA (sg (sp_load ty3 (od rfl))) ?_
    refine sfA (sg (sp_callV (od_fn51 (od rfl)) ⟨od rfl, trivial⟩ e_44)) ?_
    refine sfA (sg (sp_fieldAddr fd45_2 (od rfl))) ?_
    refine sfA (sg (sp_load ty3 (od rfl))) ?_
    refine sfA (sg (sp_move (od rfl))) ?_
    refine sfA (sg (sp_add (od rfl) (od rfl))) ?_
    refine sfA (sg (sp_move (od rfl))) ?_
    refine sfA (sg (sp_fieldAddr fd45_3 (od rfl))) ?_
    refine sfA (sg (sp_load ty3 (od rfl))) ?_
    refine sfA (sg (sp_callV (od_fn51 (od rfl)) ⟨od rfl, trivial⟩ e_46)) ?_
    refine sfA (sg (sp_fieldAddr fd45_4 (od rfl))) ?_
    refine sfA (sg (sp_load ty3 (od rfl))) ?_
    refine sfA (sg (sp_move (od rfl))) ?_
    refine sfA (sg (sp_add (od rfl) (od rfl))) ?_
    refine sfA (sg (sp_fieldAddr fd45_5 (od rfl))) ?_
    refine sfA (sg (sp_load ty3 (od rfl))) ?_
    refine sfA (sg (bd45_012345 (od rfl) (od rfl) (od rfl) (od rfl) (od rfl) (od rfl))) ?_
    refine sfA (sg (sp_buildSlice [.tmp 155] ([((v_41.1, v_43, (wr (v_41.2.2.1 + p2)), v_45, (wr (v_41.2.2.2.2.1 + p2)), v_41.2.2.2.2.2) : S_api_Turn)] : List S_api_Turn) sl23 ze45 rfl rfl rfl rfl ⟨od rfl, trivial⟩)) ?_
    refine sfT ?_
    refine sfT ?_
    refine sfT ?_
    refine sfN fun c a w hS hC => ?_
    refine ls ?_
    refine s_append (k := 2) (Δ := [(1, isV (α := Int) p1), (2, isV (α := Int) p2), (5, isA (α := S_api_Roster) p0), (11, isV (α := (Int → Option Int)) ((fun x0 => M.f41 x0 p3 p4) : (Int → Option Int))), (12, Pr.ptr b_5), (127, isV (α := List S_api_Turn) p0.2.2.2.2), (128, isV (α := Int) (p0.2.2.2.2.length : Int)), (129, isV (α := Int) i_34), (134, Pr.is u_40), (156, isV (α := List S_api_Turn) ([((v_41.1, v_43, (wr (v_41.2.2.1 + p2)), v_45, (wr (v_41.2.2.2.2.1 + p2)), v_41.2.2.2.2.2) : S_api_Turn)] : List S_api_Turn))]) sl23 ze45 hS rfl ⟨od rfl, od rfl, od rfl, od rfl, odBx rfl, od rfl, od rfl, od rfl, od rfl, od rfl, trivial⟩ ⟨fun _ _ _ _ h => h, fun _ _ _ _ h => h, fun _ _ _ _ h => h, fun _ _ _ _ h => h, fun _ _ _ _ h => h, fun _ _ _ _ h => h, fun _ _ _ _ h => h, fun _ _ _ _ h => h, fun _ _ _ _ h => h, fun _ _ _ _ h => h, trivial⟩ (od rfl) (od rfl) e_48 rfl fun a w u_49 hS hM => ?_
    have hS : St _ F0 [Item.box (α := Int × Int × Int × Raw × Raw) 25 b_5 (p0.1, (wr (p0.2.1 + p2)), (wr (p0.2.2.1 + p2)), (Raw.mk u_12), (Raw.mk u_40)), Item.sl (α := List Int) 26 u_12 s_8, Item.sl (α := S_api_Turn) 45 u_49 z_47] _ w0 _ _ := hS
    have hC := Mem.le_trans hC hM
    refine s_next hC ?_
    refine ls ?_
    refine s_c hS (sg (sp_fieldAddrP fo25_4 (od rfl))) rfl fun a w hS hM => ?_
    have hC := Mem.le_trans hC hM
    refine s_next hC ?_
    refine ls ?_
    refine s_storeP (k := 0) (off := 4) (Δ := [(1, isV (α := Int) p1), (2, isV (α := Int) p2), (5, isA (α := S_api_Roster) p0), (11, isV (α := (Int → Option Int)) ((fun x0 => M.f41 x0 p3 p4) : (Int → Option Int))), (12, Pr.ptr b_5), (127, isV (α := List S_api_Turn) p0.2.2.2.2), (128, isV (α := Int) (p0.2.2.2.2.length : Int)), (129, isV (α := Int) i_34), (157, Pr.is u_49), (158, Pr.is (.pointer (some ⟨b_5, 4, none⟩)))]) tyR23_w hS rfl ⟨od rfl, od rfl, od rfl, od rfl, od rfl, od rfl, od rfl, od rfl, od rfl, od rfl, trivial⟩ ⟨fun _ _ _ _ h => h, fun _ _ _ _ h => h, fun _ _ _ _ h => h, fun _ _ _ _ h => h, fun _ _ _ _ h => h, fun _ _ _ _ h => h, fun _ _ _ _ h => h, fun _ _ _ _ h => h, fun _ _ _ _ h => h, fun _ _ _ _ h => h, trivial⟩ (od rfl) (odRaw (od rfl) (hS.one (k := 2) rfl)) sf25_34_4 fun w hS hM => ?_
    have hS : St _ F0 [Item.box (α := Int × Int × Int × Raw × Raw) 25 b_5 (p0.1, (wr (p0.2.1 + p2)), (wr (p0.2.2.1 + p2)), (Raw.mk u_12), (Raw.mk u_49)), Item.sl (α := List Int) 26 u_12 s_8, Item.sl (α := S_api_Turn) 45 u_49 z_47] _ w0 _ _ := hS
    have hC := Mem.le_trans hC hM
    refine s_next hC ?_
    refine s_done ?_
    refine exit_block ?_
    refine et ?_
    refine st_reg mixed (by kernel_rfl) hS ?_
    refine cg (sp_add (od rfl) (odi)) ?_
    refine mv rfl ?_
    refine sn fun a w hS => ?_
    cases h
    exact ⟨k_37, _, _, u_49, rfl, hF_37, hS.weak ⟨od rfl, od rfl, od rfl, od rfl, od rfl, od rfl, od rfl, od (congrArg (fun z => some (isV (α := Int) z)) hw_37), trivial⟩⟩
  refine wp_exit ?_
  obtain rfl := (fors_done hF_37 hb).symm
  have h := hr_39
  refine exit_thenE ?_
  refine exit_thenE ?_
  refine exit_here ?_
  refine et ?_
  refine ws ?_
  refine ws ?_
  have hS := st_unraw 1 0 hS rfl rfl (UnR.snd (UnR.snd (UnR.snd (UnR.fst UnR.self))))
  have hS := st_unraw 1 0 hS rfl rfl (UnR.snd (UnR.snd (UnR.snd (UnR.snd UnR.self))))
  have hS : St _ F0 [Item.box (α := S_api_Roster) 25 b_5 ((p0.1, (wr (p0.2.1 + p2)), (wr (p0.2.2.1 + p2)), s_8, s_36) : S_api_Roster)] _ w0 _ _ := hS
  have hS := st_freezeB 0 12 hS rfl rfl
  obtain ⟨v_50, e_51, h⟩ := bind_some h
  refine st_reg mixed (by kernel_rfl) hS ?_
  refine cg (sp_load ty25 (od rfl)) ?_
  refine cg (sp_call en33 (f33_ok e_51) ⟨od rfl, trivial⟩) ?_
  refine cg (sp_not (od rfl)) ?_
  refine sn fun a w hS => ?_
  refine et ?_
  refine st_cond hS rfl (fun hb => ?_) (fun hb => ?_)
  · have h := ite_t hb h
    refine ws ?_
    refine st_reg mixed (by kernel_rfl) hS ?_
    refine cg (sp_assign (odb)) ?_
    refine sn fun a w hS => ?_
    refine et ?_
    refine wp_ret ?_
    refine exit_thenR ?_
    cases h
    exact st_ret hS (run_results1 Tryz.results7 a w) (hS.get rfl)
  have h := ite_f hb h
  refine wp_skip ?_
  refine et ?_
  refine ws ?_
  obtain ⟨v_52, e_53, h⟩ := bind_some h
  refine st_reg mixed (by kernel_rfl) hS ?_
  refine cg (sp_load ty25 (od rfl)) ?_
  refine mv rfl ?_
  refine cg (sp_call en34 (f34_ok e_53) ⟨od rfl, od rfl, trivial⟩) ?_
  refine mv rfl ?_
  refine cg (sp_extract (od rfl) rfl) ?_
  refine cg (sp_extract (od rfl) rfl) ?_
  refine cg (sp_extract (od rfl) rfl) ?_
  refine cg (sp_assign (od rfl)) ?_
  refine cg (sp_assign (od rfl)) ?_
  refine cg (sp_assign (od rfl)) ?_
  refine sn fun a w hS => ?_
  refine et ?_
  refine ws ?_
  obtain ⟨v_54, e_55, h⟩ := bind_some h
  refine st_reg mixed (by kernel_rfl) hS ?_
  refine cg (sp_load ty25 (od rfl)) ?_
  refine mv rfl ?_
  refine cg (sp_call en34 (f34_ok e_55) ⟨od rfl, od rfl, trivial⟩) ?_
  refine mv rfl ?_
  refine cg (sp_extract (od rfl) rfl) ?_
  refine cg (sp_extract (od rfl) rfl) ?_
  refine cg (sp_extract (od rfl) rfl) ?_
  refine cg (sp_assign (od rfl)) ?_
  refine cg (sp_assign (od rfl)) ?_
  refine cg (sp_assign (od rfl)) ?_
  refine sn fun a w hS => ?_
  refine et ?_
  refine ws ?_
  obtain ⟨v_56, e_57, h⟩ := bind_some h
  refine st_reg mixed (by kernel_rfl) hS ?_
  refine cg (sp_load ty25 (od rfl)) ?_
  refine mv rfl ?_
  refine cg (sp_call en20 (f20_ok e_57) ⟨od rfl, od rfl, trivial⟩) ?_
  refine mv rfl ?_
  refine cg (sp_extract (od rfl) rfl) ?_
  refine cg (sp_extract (od rfl) rfl) ?_
  refine cg (sp_extract (od rfl) rfl) ?_
  refine cg (sp_assign (od rfl)) ?_
  refine cg (sp_assign (od rfl)) ?_
  refine cg (sp_assign (od rfl)) ?_
  refine sn fun a w hS => ?_
  refine et ?_
  refine ws ?_
  obtain ⟨v_58, e_59, h⟩ := bind_some h
  refine st_reg mixed (by kernel_rfl) hS ?_
  refine cg (sp_load ty25 (od rfl)) ?_
  refine mv rfl ?_
  refine cg (sp_call en20 (f20_ok e_59) ⟨od rfl, od rfl, trivial⟩) ?_
  refine mv rfl ?_
  refine cg (sp_extract (od rfl) rfl) ?_
  refine cg (sp_extract (od rfl) rfl) ?_
  refine cg (sp_extract (od rfl) rfl) ?_
  refine cg (sp_assign (od rfl)) ?_
  refine cg (sp_assign (od rfl)) ?_
  refine cg (sp_assign (od rfl)) ?_
  refine sn fun a w hS => ?_
  refine et ?_
  refine ws ?_
  obtain ⟨v_60, e_61, h⟩ := bind_some h
  refine st_reg mixed (by kernel_rfl) hS ?_
  refine cg (sp_load ty25 (od rfl)) ?_
  refine mv rfl ?_
  refine cg (sp_call en22 (f22_ok e_61) ⟨od rfl, od rfl, trivial⟩) ?_
  refine mv rfl ?_
  refine cg (sp_extract (od rfl) rfl) ?_
  refine cg (sp_extract (od rfl) rfl) ?_
  refine cg (sp_assign (od rfl)) ?_
  refine cg (sp_assign (od rfl)) ?_
  refine sn fun a w hS => ?_
  refine et ?_
  refine ws ?_
  obtain ⟨v_62, e_63, h⟩ := bind_some h
  refine st_reg mixed (by kernel_rfl) hS ?_
  refine cg (sp_load ty25 (od rfl)) ?_
  refine mv rfl ?_
  refine cg (sp_call en22 (f22_ok e_63) ⟨od rfl, od rfl, trivial⟩) ?_
  refine mv rfl ?_
  refine cg (sp_extract (od rfl) rfl) ?_
  refine cg (sp_extract (od rfl) rfl) ?_
  refine cg (sp_assign (od rfl)) ?_
  refine cg (sp_assign (od rfl)) ?_
  refine sn fun a w hS => ?_
  refine et ?_
  refine ws ?_
  obtain ⟨v_64, e_65, h⟩ := bind_some h
  obtain ⟨v_66, e_67, h⟩ := bind_some h
  obtain ⟨v_68, e_69, h⟩ := bind_some h
  refine st_reg mixed (by kernel_rfl) hS ?_
  refine mv rfl ?_
  refine mv rfl ?_
  refine cg (sp_call en24 (f24_ok e_65) ⟨od rfl, od rfl, trivial⟩) ?_
  refine mv rfl ?_
  refine sc (sgT rfl fun hG => sp_move (od rfl)) ?_
  refine sc (sgT rfl fun hG => sp_move (od rfl)) ?_
  refine sc (sgT rfl fun hG => sp_eqlB Tryz.underlying4 (odw rfl hG) (odw rfl hG)) ?_
  refine cg (sp_pickAnd (od rfl) fun hg => odw rfl hg) ?_
  refine mv rfl ?_
  refine sc (sgT rfl fun hG => sp_move (od rfl)) ?_
  refine sc (sgT rfl fun hG => sp_move (od rfl)) ?_
  refine sc (sgT rfl fun hG => sp_eql (odw rfl hG) (odw rfl hG)) ?_
  refine cg (sp_pickAnd (od rfl) fun hg => odw rfl hg) ?_
  refine mv rfl ?_
  refine sc (sgT rfl fun hG => sp_move (od rfl)) ?_
  refine sc (sgT rfl fun hG => sp_move (od rfl)) ?_
  refine sc (sgT rfl fun hG => sp_call en24 (f24_ok (guard_some e_67 hG)) ⟨odw rfl hG, odw rfl hG, trivial⟩) ?_
  refine cg (sp_pickAnd (od rfl) fun hg => odw rfl hg) ?_
  refine mv rfl ?_
  refine sc (sgT rfl fun hG => sp_move (od rfl)) ?_
  refine sc (sgT rfl fun hG => sp_move (od rfl)) ?_
  refine sc (sgT rfl fun hG => sp_eqlB Tryz.underlying4 (odw rfl hG) (odw rfl hG)) ?_
  refine cg (sp_pickAnd (od rfl) fun hg => odw rfl hg) ?_
  refine mv rfl ?_
  refine sc (sgT rfl fun hG => sp_move (od rfl)) ?_
  refine sc (sgT rfl fun hG => sp_move (od rfl)) ?_
  refine sc (sgT rfl fun hG => sp_eql (odw rfl hG) (odw rfl hG)) ?_
  refine cg (sp_pickAnd (od rfl) fun hg => odw rfl hg) ?_
  refine mv rfl ?_
  refine sc (sgT rfl fun hG => sp_move (od rfl)) ?_
  refine sc (sgT rfl fun hG => sp_move (od rfl)) ?_
  refine sc (sgT rfl fun hG => sp_call en24 (f24_ok (guard_some e_69 hG)) ⟨odw rfl hG, odw rfl hG, trivial⟩) ?_
  refine cg (sp_pickAnd (od rfl) fun hg => odw rfl hg) ?_
  refine mv rfl ?_
  refine sc (sgT rfl fun hG => sp_move (od rfl)) ?_
  refine sc (sgT rfl fun hG => sp_move (od rfl)) ?_
  refine sc (sgT rfl fun hG => sp_eql (odw rfl hG) (odw rfl hG)) ?_
  refine cg (sp_pickAnd (od rfl) fun hg => odw rfl hg) ?_
  refine cg (sp_assign (od rfl)) ?_
  refine sn fun a w hS => ?_
  refine et ?_
  refine wp_ret ?_
  cases h
  exact st_ret hS (run_results1 Tryz.results7 a w) (hS.get rfl)

end Go.Proofs.YthogdhepjcomjaaGreatDoor
