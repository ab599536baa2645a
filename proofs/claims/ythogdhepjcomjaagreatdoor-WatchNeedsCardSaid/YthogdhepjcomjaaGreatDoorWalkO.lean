/-
  What is proved: each Go function named here returns what its model tells, and changes nothing that was there; where the model tells something.
-/
import Derived.Test.YthogdhepjcomjaaGreatDoorWalkH
import Derived.Test.YthogdhepjcomjaaGreatDoorModelO
set_option linter.unusedVariables false
set_option maxRecDepth 100000
namespace Go.Proofs.YthogdhepjcomjaaGreatDoor
open Go Go.RowKit Go.Proofs.YthogdhepjcomjaaGreatDoor.Wh

theorem f125_ok {fuel : Nat} {p0 : Int} {c0 : S_api_Roster} {c1 : Int} {r : Bool} (h : M.f125 fuel p0 c0 c1 = some r) : CallOK Tryz.prog 125 [isV p0, isA c0, isA c1] (isV r) := by
  unfold M.f125 at h
  refine callS_of Tryz.func125 rfl Tryz.ntmps125 rfl fun F0 w0 a hS => ?_
  refine ws ?_
  refine st_reg mixed (by kernel_rfl) hS ?_
  refine cg (sp_assign (odb)) ?_
  refine sn fun a w hS => ?_
  refine et ?_
  refine ws ?_
  obtain ⟨v_1, e_2, h⟩ := bind_some h
  obtain ⟨v_3, e_4, h⟩ := bind_some h
  refine st_reg mixed (by kernel_rfl) hS ?_
  refine cg (sp_load ty25 (od rfl)) ?_
  refine cg (sp_load ty25 (od rfl)) ?_
  refine cg (sp_load ty3 (od rfl)) ?_
  refine mv rfl ?_
  refine cg (sp_call en74 (f74_ok e_2) ⟨od rfl, od rfl, od rfl, trivial⟩) ?_
  refine cg (sp_call en77 (f77_ok e_4) ⟨od rfl, od rfl, trivial⟩) ?_
  refine cg (sp_not (od rfl)) ?_
  refine cg (sp_assign (od rfl)) ?_
  refine sn fun a w hS => ?_
  refine et ?_
  refine wp_ret ?_
  cases h
  exact st_ret hS (run_results1 Tryz.results125 a w) (hS.get rfl)

theorem f55_ok {fuel : Nat} {p0 : S_api_Roster} {p1 : Int} {r : (List Int) × Int} (h : M.f55 fuel p0 p1 = some r) : CallOK Tryz.prog 55 [isV p0, isV p1] (isTup [isV r.1, isV r.2]) := by
  unfold M.f55 at h
  refine callS_of Tryz.func55 rfl Tryz.ntmps55 rfl fun F0 w0 a hS => ?_
  refine ws ?_
  refine st_reg mixed (by kernel_rfl) hS ?_
  refine cg (sp_box (od rfl)) ?_
  refine cg (sp_box (od rfl)) ?_
  refine cg (sp_assign (odnil (α := Int))) ?_
  refine cg (sp_assign (odi)) ?_
  refine sn fun a w hS => ?_
  refine et ?_
  refine ws ?_
  refine ws ?_
  obtain ⟨v_1, e_2, h⟩ := bind_some h
  refine st_reg mixed (by kernel_rfl) hS ?_
  refine cg (sp_load ty25 (od rfl)) ?_
  refine cg (sp_load ty3 (od rfl)) ?_
  refine cg (sp_call en73 (f73_ok e_2) ⟨od rfl, od rfl, trivial⟩) ?_
  refine cg (sp_assign (od rfl)) ?_
  refine sn fun a w hS => ?_
  refine et ?_
  refine ws ?_
  refine st_reg mixed (by kernel_rfl) hS ?_
  refine mv rfl ?_
  refine cg (sp_neq (od rfl) (odi)) ?_
  refine sn fun a w hS => ?_
  refine et ?_
  refine st_cond hS rfl (fun hb => ?_) (fun hb => ?_)
  · have h := ite_t hb h
    refine ws ?_
    refine st_reg mixed (by kernel_rfl) hS ?_
    refine mv rfl ?_
    refine cg (sp_assign (odnil (α := Int))) ?_
    refine cg (sp_assign (od rfl)) ?_
    refine sn fun a w hS => ?_
    refine et ?_
    refine wp_ret ?_
    refine exit_thenR ?_
    cases h
    exact st_ret hS (run_results2 Tryz.results55 a w) (⟨_, rfl, hS.get rfl, hS.get rfl, trivial⟩)
  have h := ite_f hb h
  refine wp_skip ?_
  refine et ?_
  refine ws ?_
  refine ws ?_
  obtain ⟨v_3, e_4, h⟩ := bind_some h
  obtain ⟨v_5, e_6, h⟩ := bind_some h
  refine st_reg mixed (by kernel_rfl) hS ?_
  refine cg (sp_load ty25 (od rfl)) ?_
  refine cg (sp_load ty25 (od rfl)) ?_
  refine cg (sp_load ty3 (od rfl)) ?_
  refine cg (sp_call en74 (f74_ok e_4) ⟨od rfl, od rfl, odi, trivial⟩) ?_
  refine cg (sp_call en77 (f77_ok e_6) ⟨od rfl, od rfl, trivial⟩) ?_
  refine cg (sp_not (od rfl)) ?_
  refine sn fun a w hS => ?_
  refine et ?_
  refine st_cond hS rfl (fun hb => ?_) (fun hb => ?_)
  · have h := ite_t hb h
    refine ws ?_
    refine st_reg mixed (by kernel_rfl) hS ?_
    refine cg (sp_assign (odnil (α := Int))) ?_
    refine cg (sp_assign (odi)) ?_
    refine sn fun a w hS => ?_
    refine et ?_
    refine wp_ret ?_
    refine exit_thenR ?_
    cases h
    exact st_ret hS (run_results2 Tryz.results55 a w) (⟨_, rfl, hS.get rfl, hS.get rfl, trivial⟩)
  have h := ite_f hb h
  refine wp_skip ?_
  refine et ?_
  refine ws ?_
  obtain ⟨v_7, e_8, h⟩ := bind_some h
  refine st_reg mixed (by kernel_rfl) hS ?_
  refine cg (sp_load ty25 (od rfl)) ?_
  refine cg (sp_load ty3 (od rfl)) ?_
  refine cg (mk_fn55 (f := (fun x0 => M.f125 fuel x0 p0 p1)) (κs := [isA (α := S_api_Roster) p0, isA (α := Int) p1]) ⟨fun _ _ _ _ h => h, fun _ _ _ _ h => h, trivial⟩ en125 ⟨od rfl, od rfl, trivial⟩ (fun _ _ h => f125_ok h)) ?_
  refine cg (sp_call en90 (f90_ok e_8) ⟨od rfl, od rfl, od rfl, trivial⟩) ?_
  refine cg (sp_assign (od rfl)) ?_
  refine cg (sp_assign (odi)) ?_
  refine sn fun a w hS => ?_
  refine et ?_
  refine wp_ret ?_
  cases h
  exact st_ret hS (run_results2 Tryz.results55 a w) (⟨_, rfl, hS.get rfl, hS.get rfl, trivial⟩)

theorem f126_ok {p0 : S_api_Roster} {p1 : Int} {r : S_api_Roster} (h : M.f126 p0 p1 = some r) : CallOK Tryz.prog 126 [isV p0, isV p1] (isV r) := by
  unfold M.f126 at h
  refine callS_of Tryz.func126 rfl Tryz.ntmps126 rfl fun F0 w0 a hS => ?_
  refine ws ?_
  refine l_start ?_
  refine s_c hS (sg (sp_box (od rfl))) rfl fun a w hS hM => ?_
  refine s_alloc zi25 hS rfl fun a w b_1 hS hM => ?_
  have hS : St _ F0 [Item.box (α := S_api_Roster) 25 b_1 ((0, 0, 0, [], []) : S_api_Roster)] _ w0 _ _ := hS
  refine l_end ?_
  refine et ?_
  refine ws ?_
  refine l_start ?_
  refine s_c hS (sg (sp_load ty25 (od rfl))) rfl fun a w hS hM => ?_
  refine s_alloc ziR25_ hS rfl fun a w b_2 hS hM => ?_
  have hS : St _ F0 [Item.box (α := S_api_Roster) 25 b_1 ((0, 0, 0, [], []) : S_api_Roster), Item.box (α := Int × Int × Int × (List (List Int)) × (List S_api_Turn)) 25 b_2 ((0 : Int), (0 : Int), (0 : Int), ([] : List (List Int)), ([] : List S_api_Turn))] _ w0 _ _ := hS
  have hS : St _ F0 [Item.box (α := S_api_Roster) 25 b_1 ((0, 0, 0, [], []) : S_api_Roster), Item.box (α := Int × Int × Int × (List (List Int)) × (List S_api_Turn)) 25 b_2 ((0 : Int), (0 : Int), (0 : Int), ([] : List (List Int)), ([] : List S_api_Turn))] _ w0 _ _ := hS
  refine s_storeB (α := S_api_Roster) (k := 1) (Δ := [(1, isV (α := Int) p1), (2, isA (α := S_api_Roster) p0), (4, Pr.ptr b_1), (5, Pr.ptr b_2), (6, isV (α := S_api_Roster) p0)]) ty25 hS rfl ⟨od rfl, od rfl, od rfl, od rfl, od rfl, trivial⟩ ⟨fun _ _ _ _ h => h, fun _ _ _ _ h => h, fun _ _ _ _ h => h, fun _ _ _ _ h => h, fun _ _ _ _ h => h, trivial⟩ rfl (od rfl) fun w hS hM => ?_
  have hS : St _ F0 [Item.box (α := S_api_Roster) 25 b_1 ((0, 0, 0, [], []) : S_api_Roster), Item.box (α := Int × Int × Int × (List (List Int)) × (List S_api_Turn)) 25 b_2 (p0.1, p0.2.1, p0.2.2.1, p0.2.2.2.1, p0.2.2.2.2)] _ w0 _ _ := hS
  refine l_end ?_
  refine et ?_
  refine ws ?_
  obtain ⟨z_4, e_5, h⟩ := bind_some h
  refine l_start ?_
  refine s_new0 sl23 hS rfl fun a w u_3 hS hM => ?_
  have hS : St _ F0 [Item.box (α := S_api_Roster) 25 b_1 ((0, 0, 0, [], []) : S_api_Roster), Item.box (α := Int × Int × Int × (List (List Int)) × (List S_api_Turn)) 25 b_2 (p0.1, p0.2.1, p0.2.2.1, p0.2.2.2.1, p0.2.2.2.2), Item.sl (α := S_api_Turn) 45 u_3 ([] : List S_api_Turn)] _ w0 _ _ := hS
  refine s_c hS (sg (sp_fieldAddr fd25_4 (od rfl))) rfl fun a w hS hM => ?_
  refine s_c hS (sg (sp_load ty23 (od rfl))) rfl fun a w hS hM => ?_
  refine s_append (k := 2) (Δ := [(1, isV (α := Int) p1), (4, Pr.ptr b_1), (5, Pr.ptr b_2), (7, Pr.is u_3), (9, isV (α := List S_api_Turn) p0.2.2.2.2)]) sl23 ze45 hS rfl ⟨od rfl, od rfl, od rfl, od rfl, od rfl, trivial⟩ ⟨fun _ _ _ _ h => h, fun _ _ _ _ h => h, fun _ _ _ _ h => h, fun _ _ _ _ h => h, fun _ _ _ _ h => h, trivial⟩ (od rfl) (od rfl) e_5 rfl fun a w u_6 hS hM => ?_
  have hS : St _ F0 [Item.box (α := S_api_Roster) 25 b_1 ((0, 0, 0, [], []) : S_api_Roster), Item.box (α := Int × Int × Int × (List (List Int)) × (List S_api_Turn)) 25 b_2 (p0.1, p0.2.1, p0.2.2.1, p0.2.2.2.1, p0.2.2.2.2), Item.sl (α := S_api_Turn) 45 u_6 z_4] _ w0 _ _ := hS
  refine s_c hS (sg (sp_fieldAddrP fo25_4 (od rfl))) rfl fun a w hS hM => ?_
  obtain ⟨v_7, hS⟩ := st_toraw (α := Int × Int × Int × (List (List Int)) × (List S_api_Turn)) 1 hS rfl (ToR.snd (ToR.snd (ToR.snd (ToR.snd ToR.self))))
  refine s_storeP (k := 1) (off := 4) (Δ := [(1, isV (α := Int) p1), (4, Pr.ptr b_1), (5, Pr.ptr b_2), (10, Pr.is u_6), (11, Pr.is (.pointer (some ⟨b_2, 4, none⟩)))]) tyR23_w hS rfl ⟨od rfl, od rfl, od rfl, od rfl, od rfl, trivial⟩ ⟨fun _ _ _ _ h => h, fun _ _ _ _ h => h, fun _ _ _ _ h => h, fun _ _ _ _ h => h, fun _ _ _ _ h => h, trivial⟩ (od rfl) (odRaw (od rfl) (hS.one (k := 2) rfl)) sf25_4_4 fun w hS hM => ?_
  have hS : St _ F0 [Item.box (α := S_api_Roster) 25 b_1 ((0, 0, 0, [], []) : S_api_Roster), Item.box (α := Int × Int × Int × (List (List Int)) × Raw) 25 b_2 (p0.1, p0.2.1, p0.2.2.1, p0.2.2.2.1, (Raw.mk u_6)), Item.sl (α := S_api_Turn) 45 u_6 z_4] _ w0 _ _ := hS
  refine l_end ?_
  refine et ?_
  refine ws ?_
  obtain ⟨v_8, e_9, h⟩ := bind_some h
  obtain ⟨z_10, e_11, h⟩ := bind_some h
  refine l_start ?_
  have hS := st_box 1 5 hS rfl rfl
  refine s_c hS (sg (sp_fieldAddrB fdR25_4_4 (odB rfl))) rfl fun a w hS hM => ?_
  refine s_c hS (sg (sp_loadRaw tyR23_w (od rfl))) rfl fun a w hS hM => ?_
  refine s_c hS (sg (sp_move (od rfl))) rfl fun a w hS hM => ?_
  have hS := st_os 2 10 hS rfl rfl
  have hS := st_os 2 13 hS rfl rfl
  refine s_c hS (sg (sp_indexAddrOS sl23 (od rfl) (od rfl) e_9)) rfl fun a w hS hM => ?_
  refine s_c hS (sg (sp_fieldAddrEF fo45_0 (odEP rfl))) rfl fun a w hS hM => ?_
  refine s_storeEF (k := 2) (j := p1) (off := 0) (Δ := [(4, Pr.ptr b_1), (5, Pr.ptr b_2), (16, isEF S_api_Turn u_6 p1.toNat 0)]) ty3 hS rfl ⟨od rfl, odBx rfl, od rfl, trivial⟩ ⟨fun _ _ _ _ h => h, fun _ _ _ _ h => h, fun _ _ _ _ h => h, trivial⟩ (od rfl) (odi) e_9 sf45__0 e_11 fun w hS hM => ?_
  have hS : St _ F0 [Item.box (α := S_api_Roster) 25 b_1 ((0, 0, 0, [], []) : S_api_Roster), Item.box (α := Int × Int × Int × (List (List Int)) × Raw) 25 b_2 (p0.1, p0.2.1, p0.2.2.1, p0.2.2.2.1, (Raw.mk u_6)), Item.sl (α := S_api_Turn) 45 u_6 z_10] _ w0 _ _ := hS
  refine l_end ?_
  refine et ?_
  refine ws ?_
  have hS := hS.weak (Δ := [(4, Pr.ptr b_1), (5, Pr.ptr b_2), (16, isEF S_api_Turn u_6 p1.toNat 0)]) ⟨od rfl, od rfl, od rfl, trivial⟩
  have hS := st_unraw 2 1 hS rfl rfl (UnR.snd (UnR.snd (UnR.snd (UnR.snd UnR.self))))
  have hS : St _ F0 [Item.box (α := S_api_Roster) 25 b_1 ((0, 0, 0, [], []) : S_api_Roster), Item.box (α := S_api_Roster) 25 b_2 ((p0.1, p0.2.1, p0.2.2.1, p0.2.2.2.1, z_10) : S_api_Roster)] _ w0 _ _ := hS
  have hS := st_freezeB 1 5 hS rfl rfl
  refine l_start ?_
  refine s_c hS (sg (sp_load ty25 (od rfl))) rfl fun a w hS hM => ?_
  refine s_storeB (k := 0) (Δ := [(4, Pr.ptr b_1), (17, isV (α := S_api_Roster) ((p0.1, p0.2.1, p0.2.2.1, p0.2.2.2.1, z_10) : S_api_Roster))]) ty25 hS rfl ⟨od rfl, od rfl, trivial⟩ ⟨fun _ _ _ _ h => h, fun _ _ _ _ h => h, trivial⟩ rfl (od rfl) fun w hS hM => ?_
  have hS : St _ F0 [Item.box (α := S_api_Roster) 25 b_1 ((p0.1, p0.2.1, p0.2.2.1, p0.2.2.2.1, z_10) : S_api_Roster)] _ w0 _ _ := hS
  have hS := st_freezeB 0 4 hS rfl rfl
  refine l_end ?_
  refine et ?_
  refine wp_ret ?_
  cases h
  obtain ⟨v, hr, hv⟩ := run_resC1 Tryz.results126 ty25 (hS.get rfl)
  exact st_ret hS hr hv

theorem f56_ok {fuel : Nat} {p0 : S_api_Roster} {p1 : Int} {r : (List Int) × Int} (h : M.f56 fuel p0 p1 = some r) : CallOK Tryz.prog 56 [isV p0, isV p1] (isTup [isV r.1, isV r.2]) := by
  unfold M.f56 at h
  refine callS_of Tryz.func56 rfl Tryz.ntmps56 rfl fun F0 w0 a hS => ?_
  refine ws ?_
  refine st_reg mixed (by kernel_rfl) hS ?_
  refine cg (sp_box (od rfl)) ?_
  refine cg (sp_assign (odnil (α := Int))) ?_
  refine cg (sp_assign (odi)) ?_
  refine sn fun a w hS => ?_
  refine et ?_
  refine ws ?_
  obtain ⟨v_1, e_2, h⟩ := bind_some h
  refine st_reg mixed (by kernel_rfl) hS ?_
  refine cg (sp_load ty25 (od rfl)) ?_
  refine mv rfl ?_
  refine cg (sp_call en75 (f75_ok e_2) ⟨od rfl, od rfl, trivial⟩) ?_
  refine cg (sp_assign (od rfl)) ?_
  refine sn fun a w hS => ?_
  refine et ?_
  refine ws ?_
  refine ws ?_
  refine st_reg mixed (by kernel_rfl) hS ?_
  refine mv rfl ?_
  refine cg (sp_neq (od rfl) (odi)) ?_
  refine sn fun a w hS => ?_
  refine et ?_
  refine st_cond hS rfl (fun hb => ?_) (fun hb => ?_)
  · have h := ite_t hb h
    refine ws ?_
    refine st_reg mixed (by kernel_rfl) hS ?_
    refine mv rfl ?_
    refine cg (sp_assign (odnil (α := Int))) ?_
    refine cg (sp_assign (od rfl)) ?_
    refine sn fun a w hS => ?_
    refine et ?_
    refine wp_ret ?_
    refine exit_thenR ?_
    cases h
    exact st_ret hS (run_results2 Tryz.results56 a w) (⟨_, rfl, hS.get rfl, hS.get rfl, trivial⟩)
  have h := ite_f hb h
  refine wp_skip ?_
  refine et ?_
  refine ws ?_
  obtain ⟨v_3, e_4, h⟩ := bind_some h
  refine st_reg mixed (by kernel_rfl) hS ?_
  refine cg (sp_load ty25 (od rfl)) ?_
  refine mv rfl ?_
  refine cg (sp_call en78 (f78_ok e_4) ⟨od rfl, od rfl, odb, trivial⟩) ?_
  refine cg (sp_assign (od rfl)) ?_
  refine sn fun a w hS => ?_
  refine et ?_
  refine ws ?_
  refine ws ?_
  refine st_reg mixed (by kernel_rfl) hS ?_
  refine mv rfl ?_
  refine cg (sp_len Tryz.underlying26 (od rfl)) ?_
  refine cg (sp_eql (od rfl) (odi)) ?_
  refine sn fun a w hS => ?_
  refine et ?_
  refine st_cond hS rfl (fun hb => ?_) (fun hb => ?_)
  · have h := ite_t hb h
    refine ws ?_
    refine st_reg mixed (by kernel_rfl) hS ?_
    refine cg (sp_assign (odnil (α := Int))) ?_
    refine cg (sp_assign (odi)) ?_
    refine sn fun a w hS => ?_
    refine et ?_
    refine wp_ret ?_
    refine exit_thenR ?_
    cases h
    exact st_ret hS (run_results2 Tryz.results56 a w) (⟨_, rfl, hS.get rfl, hS.get rfl, trivial⟩)
  have h := ite_f hb h
  refine wp_skip ?_
  refine et ?_
  refine ws ?_
  refine st_reg mixed (by kernel_rfl) hS ?_
  refine cg (sp_assign (φ := Pr.is (.slice none 0 0)) (odc fun _ => rfl)) ?_
  refine sn fun a w hS => ?_
  have hS := st_nil (α := Int) 3 hS
  have hS : St _ F0 [Item.sl (α := Int) 3 (.slice none 0 0) ([] : List Int)] _ w0 _ _ := hS
  refine et ?_
  refine ws ?_
  refine ws ?_
  refine st_reg mixed (by kernel_rfl) hS ?_
  refine cg (sp_assign (odi)) ?_
  refine sn fun a w hS => ?_
  refine et ?_
  refine wp_block ?_
  obtain ⟨o_6, e_7, hr_8⟩ := bind_some h
  refine c_loop (fun K a w => ∃ s_5 : Int × (List Int), ∃ u_9 : Value, loopM _ K s_5 = some o_6 ∧ St 43 F0 [Item.sl (α := Int) 3 u_9 s_5.2] [(1, isV (α := Int) p1), (2, isA (α := S_api_Roster) p0), (8, Pr.is u_9), (9, isV (α := Int) s_5.1)] w0 a w) ?_ ?_ ⟨_, (.slice none 0 0), e_7, hS.weak ⟨od rfl, od rfl, od rfl, od rfl, trivial⟩⟩
  · rintro a w ⟨_, _, hk, _⟩; cases hk
  rintro K a w ⟨s_5, u_9, hF_6, hS⟩
  obtain ⟨o, h, hN_6, hL_6⟩ := loop_more hF_6
  refine ws ?_
  refine ws ?_
  refine st_reg mixed (by kernel_rfl) hS ?_
  refine mv rfl ?_
  refine cg (sp_fieldAddr fd25_4 (od rfl)) ?_
  refine cg (sp_load ty23 (od rfl)) ?_
  refine cg (sp_len Tryz.underlying23 (od rfl)) ?_
  refine cg (sp_lss (od rfl) (od rfl)) ?_
  refine sn fun a w hS => ?_
  refine et ?_
  refine st_cond hS rfl (fun hb => ?_) (fun hb => ?_)
  · have h := ite_t hb h
    refine wp_skip ?_
    refine et ?_
    refine ws ?_
    refine wp_block ?_
    refine ws ?_
    obtain ⟨v_10, e_11, h⟩ := bind_some h
    obtain ⟨v_12, e_13, h⟩ := bind_some h
    refine st_reg mixed (by kernel_rfl) hS ?_
    refine cg (sp_load ty25 (od rfl)) ?_
    refine mv rfl ?_
    refine cg (sp_call en126 (f126_ok e_11) ⟨od rfl, od rfl, trivial⟩) ?_
    refine mv rfl ?_
    refine cg (sp_call en78 (f78_ok e_13) ⟨od rfl, od rfl, odb, trivial⟩) ?_
    refine cg (sp_assign (od rfl)) ?_
    refine sn fun a w hS => ?_
    refine et ?_
    refine ws ?_
    refine st_reg mixed (by kernel_rfl) hS ?_
    refine mv rfl ?_
    refine cg (sp_len Tryz.underlying26 (od rfl)) ?_
    refine cg (sp_eql (od rfl) (odi)) ?_
    refine sn fun a w hS => ?_
    refine et ?_
    obtain ⟨y_15, hj_14, h⟩ := bind_some h
    refine wp_mono (Q := fun e a w => e = Exit.normal ∧ ∃ u_16 : Value, St 43 F0 [Item.sl (α := Int) 3 u_16 y_15] [(1, isV (α := Int) p1), (2, isA (α := S_api_Roster) p0), (8, Pr.is u_16), (9, isV (α := Int) s_5.1)] w0 a w) ?_ ?_
    · refine st_cond hS rfl (fun hb => ?_) (fun hb => ?_)
      · have h := ite_t hb hj_14
        obtain ⟨z_17, e_18, h⟩ := bind_some h
        refine l_start ?_
        refine s_c hS (sg (sp_move (od rfl))) rfl fun a w hS hM => ?_
        refine s_c hS (sg (sp_move (od rfl))) rfl fun a w hS hM => ?_
        refine s_c hS (sg (sp_buildSlice [.tmp 39] ([s_5.1] : List Int) sl26 ze3 rfl rfl rfl rfl ⟨od rfl, trivial⟩)) rfl fun a w hS hM => ?_
        refine s_append (k := 0) (Δ := [(1, isV (α := Int) p1), (2, isA (α := S_api_Roster) p0), (9, isV (α := Int) s_5.1), (38, Pr.is u_9), (40, isV (α := List Int) ([s_5.1] : List Int))]) sl26 ze3 hS rfl ⟨od rfl, od rfl, od rfl, od rfl, od rfl, trivial⟩ ⟨fun _ _ _ _ h => h, fun _ _ _ _ h => h, fun _ _ _ _ h => h, fun _ _ _ _ h => h, fun _ _ _ _ h => h, trivial⟩ (od rfl) (od rfl) e_18 rfl fun a w u_19 hS hM => ?_
        have hS : St _ F0 [Item.sl (α := Int) 3 u_19 z_17] _ w0 _ _ := hS
        refine s_c hS (sg (sp_assign (od rfl))) rfl fun a w hS hM => ?_
        refine l_end ?_
        cases h
        exact ⟨rfl, u_19, hS.weak ⟨od rfl, od rfl, od rfl, od rfl, trivial⟩⟩
      have h := ite_f hb hj_14
      refine wp_skip ?_
      cases h
      exact ⟨rfl, u_9, hS.weak ⟨od rfl, od rfl, od rfl, od rfl, trivial⟩⟩
    rintro e a w ⟨rfl, u_16, hS⟩
    refine exit_block ?_
    refine et ?_
    refine st_reg mixed (by kernel_rfl) hS ?_
    refine mv rfl ?_
    refine cg (sp_add (od rfl) (odi)) ?_
    refine cg (sp_assign (od rfl)) ?_
    refine sn fun a w hS => ?_
    cases h
    exact ⟨_, u_16, hN_6 _ rfl, hS.weak ⟨od rfl, od rfl, od rfl, od rfl, trivial⟩⟩
  have h := ite_f hb h
  refine wp_exit ?_
  refine exit_thenE ?_
  cases h
  obtain rfl := hL_6 _ rfl
  have h := hr_8
  refine exit_thenE ?_
  refine exit_here ?_
  refine et ?_
  refine ws ?_
  refine st_reg mixed (by kernel_rfl) hS ?_
  refine mv rfl ?_
  refine cg (sp_assign (od rfl)) ?_
  refine cg (sp_assign (odi)) ?_
  refine sn fun a w hS => ?_
  refine et ?_
  refine wp_ret ?_
  have hS0 := hS
  have hS := st_freeze 0 4 hS rfl rfl
  have hS := st_also (t := 4) (q := 8) hS0 hS rfl rfl rfl
  have hS := st_also (t := 4) (q := 42) hS0 hS rfl rfl rfl
  cases h
  exact st_ret hS (run_results2 Tryz.results56 a w) (⟨_, rfl, hS.get rfl, hS.get rfl, trivial⟩)

theorem f58_ok {fuel : Nat} {p0 : S_api_Roster} {p1 : Int} {p2 : List Int} {r : Int × Int} (h : M.f58 fuel p0 p1 p2 = some r) : CallOK Tryz.prog 58 [isV p0, isV p1, isV p2] (isTup [isV r.1, isV r.2]) := by
  unfold M.f58 at h
  refine callS_of Tryz.func58 rfl Tryz.ntmps58 rfl fun F0 w0 a hS => ?_
  refine ws ?_
  refine st_reg mixed (by kernel_rfl) hS ?_
  refine cg (sp_box (od rfl)) ?_
  refine cg (sp_assign (odi)) ?_
  refine cg (sp_assign (odi)) ?_
  refine sn fun a w hS => ?_
  refine et ?_
  refine ws ?_
  obtain ⟨v_1, e_2, h⟩ := bind_some h
  refine st_reg mixed (by kernel_rfl) hS ?_
  refine cg (sp_load ty25 (od rfl)) ?_
  refine mv rfl ?_
  refine cg (sp_call en75 (f75_ok e_2) ⟨od rfl, od rfl, trivial⟩) ?_
  refine cg (sp_assign (od rfl)) ?_
  refine sn fun a w hS => ?_
  refine et ?_
  refine ws ?_
  refine ws ?_
  refine st_reg mixed (by kernel_rfl) hS ?_
  refine mv rfl ?_
  refine cg (sp_neq (od rfl) (odi)) ?_
  refine sn fun a w hS => ?_
  refine et ?_
  refine st_cond hS rfl (fun hb => ?_) (fun hb => ?_)
  · have h := ite_t hb h
    refine ws ?_
    refine st_reg mixed (by kernel_rfl) hS ?_
    refine mv rfl ?_
    refine cg (sp_assign (odi)) ?_
    refine cg (sp_assign (od rfl)) ?_
    refine sn fun a w hS => ?_
    refine et ?_
    refine wp_ret ?_
    refine exit_thenR ?_
    cases h
    exact st_ret hS (run_results2 Tryz.results58 a w) (⟨_, rfl, hS.get rfl, hS.get rfl, trivial⟩)
  have h := ite_f hb h
  refine wp_skip ?_
  refine et ?_
  refine ws ?_
  refine ws ?_
  obtain ⟨v_3, e_4, h⟩ := bind_some h
  refine st_reg mixed (by kernel_rfl) hS ?_
  refine cg (sp_load ty25 (od rfl)) ?_
  refine mv rfl ?_
  refine mv rfl ?_
  refine cg (sp_call en129 (f129_ok e_4) ⟨od rfl, od rfl, od rfl, trivial⟩) ?_
  refine cg (sp_not (od rfl)) ?_
  refine sn fun a w hS => ?_
  refine et ?_
  refine st_cond hS rfl (fun hb => ?_) (fun hb => ?_)
  · have h := ite_t hb h
    refine ws ?_
    refine st_reg mixed (by kernel_rfl) hS ?_
    refine cg (sp_assign (odi)) ?_
    refine cg (sp_assign (odi)) ?_
    refine sn fun a w hS => ?_
    refine et ?_
    refine wp_ret ?_
    refine exit_thenR ?_
    cases h
    exact st_ret hS (run_results2 Tryz.results58 a w) (⟨_, rfl, hS.get rfl, hS.get rfl, trivial⟩)
  have h := ite_f hb h
  refine wp_skip ?_
  refine et ?_
  refine ws ?_
  refine st_reg mixed (by kernel_rfl) hS ?_
  refine cg (sp_assign (odi)) ?_
  refine sn fun a w hS => ?_
  refine et ?_
  refine ws ?_
  obtain ⟨v_5, e_6, h⟩ := bind_some h
  obtain ⟨v_7, e_8, h⟩ := bind_some h
  have hS := hS.weak (Δ := [(0, isV (α := S_api_Roster) p0), (1, isV (α := Int) p1), (2, isV (α := List Int) p2), (3, isA (α := S_api_Roster) p0), (6, isV (α := Int) 0), (7, isV (α := Int) 0), (8, isV (α := Int) v_1), (9, isV (α := Int) 1048576), (15, isV (α := S_api_Roster) p0), (16, isV (α := Int) p1), (17, isV (α := Int) v_1), (18, isV (α := Int) v_1), (19, isV (α := Bool) (v_1 != 0)), (21, isV (α := S_api_Roster) p0), (22, isV (α := Int) p1), (23, isV (α := List Int) p2), (24, isV (α := Bool) v_3), (25, isV (α := Bool) (!v_3))]) ⟨od rfl, od rfl, od rfl, od rfl, od rfl, od rfl, od rfl, od rfl, od rfl, od rfl, od rfl, od rfl, od rfl, od rfl, od rfl, od rfl, od rfl, od rfl, trivial⟩
  refine st_pairs mixed [0, 0, 0, 0, 0, 0, 0, 3, 4] [⟨7, 8, 10, 45, S_api_Turn, inferInstance, ((0, 0, 0, 0, 0, 0) : S_api_Turn), v_7⟩] (by kernel_rfl) (by kernel_rfl) hS ⟨fun _ _ _ _ h => h, fun _ _ _ _ h => h, fun _ _ _ _ h => h, fun _ _ _ _ h => h, fun _ _ _ _ h => h, fun _ _ _ _ h => h, fun _ _ _ _ h => h, fun _ _ _ _ h => h, fun _ _ _ _ h => h, fun _ _ _ _ h => h, fun _ _ _ _ h => h, fun _ _ _ _ h => h, fun _ _ _ _ h => h, fun _ _ _ _ h => h, fun _ _ _ _ h => h, fun _ _ _ _ h => h, fun _ _ _ _ h => h, fun _ _ _ _ h => h, trivial⟩ ?_
  refine sq0 (fun _ _ _ _ h => h) (sg (sp_fieldAddr fd25_4 (od rfl))) ?_
  refine sq0 (fun _ _ _ _ h => h) (sg (sp_load ty23 (od rfl))) ?_
  refine sq0 (fun _ _ _ _ h => h) (sg (sp_move (od rfl))) ?_
  refine sq0 (fun _ _ _ _ h => h) (sg (sp_indexAddr sl26 (od rfl) (odi) e_6)) ?_
  refine sq0 (fun _ _ _ _ h => h) (sg (sp_load ty3 (od rfl))) ?_
  refine sq0 (fun _ _ _ _ h => h) (sg (sp_indexAddr sl23 (od rfl) (od rfl) e_8)) ?_
  refine sq0 (fun _ _ _ _ h => h) (sg (sp_load ty45 (od rfl))) ?_
  refine sqA 0 rfl zi45 ?_
  refine sqS 0 rfl ty45 (od rfl) ?_
  refine sqN fun a w bs hl hS => ?_
  obtain ⟨b_9, rfl⟩ := len1 hl
  have hS : St _ F0 [Item.box (α := S_api_Turn) 45 b_9 (v_7 : S_api_Turn)] ((10, Pr.ptr b_9) :: _) w0 _ _ := hS
  have hS := st_freezeB 0 10 hS rfl rfl
  refine et ?_
  refine ws ?_
  refine ws ?_
  refine st_reg mixed (by kernel_rfl) hS ?_
  refine cg (sp_fieldAddr fd45_1 (od rfl)) ?_
  refine cg (sp_load ty3 (od rfl)) ?_
  refine cg (sp_neq (od rfl) (odi)) ?_
  refine sn fun a w hS => ?_
  refine et ?_
  obtain ⟨y_11, hj_10, h⟩ := bind_some h
  refine wp_mono (Q := fun e a w => e = Exit.normal ∧ St 128 F0 [] [(2, isV (α := List Int) p2), (3, isA (α := S_api_Roster) p0), (9, isV (α := Int) y_11)] w0 a w) ?_ ?_
  · refine st_cond hS rfl (fun hb => ?_) (fun hb => ?_)
    · have h := ite_t hb hj_10
      obtain ⟨v_12, e_13, h⟩ := bind_some h
      obtain ⟨v_14, e_15, h⟩ := bind_some h
      refine st_reg mixed (by kernel_rfl) hS ?_
      refine mv rfl ?_
      refine cg (sp_fieldAddr fd25_1 (od rfl)) ?_
      refine cg (sp_load ty3 (od rfl)) ?_
      refine cg (sp_fieldAddr fd45_2 (od rfl)) ?_
      refine cg (sp_load ty3 (od rfl)) ?_
      refine cg (sp_sub (od rfl) (od rfl)) ?_
      refine cg (sp_fieldAddr fd25_3 (od rfl)) ?_
      refine cg (sp_load ty22 (od rfl)) ?_
      refine cg (sp_indexAddr sl22 (od rfl) (odi) e_13) ?_
      refine cg (sp_load ty26 (od rfl)) ?_
      refine cg (sp_fieldAddr fd45_1 (od rfl)) ?_
      refine cg (sp_load ty3 (od rfl)) ?_
      refine cg (sp_indexAddr sl26 (od rfl) (od rfl) e_15) ?_
      refine cg (sp_load ty3 (od rfl)) ?_
      refine cg (sp_sub (od rfl) (od rfl)) ?_
      refine cg (sp_min (od rfl) (od rfl)) ?_
      refine cg (sp_assign (od rfl)) ?_
      refine sn fun a w hS => ?_
      cases h
      exact ⟨rfl, hS.weak ⟨od rfl, od rfl, od rfl, trivial⟩⟩
    have h := ite_f hb hj_10
    refine wp_skip ?_
    cases h
    exact ⟨rfl, hS.weak ⟨od rfl, od rfl, od rfl, trivial⟩⟩
  rintro e a w ⟨rfl, hS⟩
  refine et ?_
  refine ws ?_
  obtain ⟨v_16, e_17, h⟩ := bind_some h
  obtain ⟨v_18, e_19, h⟩ := bind_some h
  have hS := hS.weak (Δ := [(2, isV (α := List Int) p2), (3, isA (α := S_api_Roster) p0), (9, isV (α := Int) y_11)]) ⟨od rfl, od rfl, od rfl, trivial⟩
  refine st_pairs mixed [0, 0, 0, 0, 0, 0, 0, 0, 0, 0, 3, 4] [⟨10, 11, 11, 45, S_api_Turn, inferInstance, ((0, 0, 0, 0, 0, 0) : S_api_Turn), v_18⟩] (by kernel_rfl) (by kernel_rfl) hS ⟨fun _ _ _ _ h => h, fun _ _ _ _ h => h, fun _ _ _ _ h => h, trivial⟩ ?_
  refine sq0 (fun _ _ _ _ h => h) (sg (sp_fieldAddr fd25_4 (od rfl))) ?_
  refine sq0 (fun _ _ _ _ h => h) (sg (sp_load ty23 (od rfl))) ?_
  refine sq0 (fun _ _ _ _ h => h) (sg (sp_move (od rfl))) ?_
  refine sq0 (fun _ _ _ _ h => h) (sg (sp_move (od rfl))) ?_
  refine sq0 (fun _ _ _ _ h => h) (sg (sp_len Tryz.underlying26 (od rfl))) ?_
  refine sq0 (fun _ _ _ _ h => h) (sg (sp_sub (od rfl) (odi))) ?_
  refine sq0 (fun _ _ _ _ h => h) (sg (sp_indexAddr sl26 (od rfl) (od rfl) e_17)) ?_
  refine sq0 (fun _ _ _ _ h => h) (sg (sp_load ty3 (od rfl))) ?_
  refine sq0 (fun _ _ _ _ h => h) (sg (sp_indexAddr sl23 (od rfl) (od rfl) e_19)) ?_
  refine sq0 (fun _ _ _ _ h => h) (sg (sp_load ty45 (od rfl))) ?_
  refine sqA 0 rfl zi45 ?_
  refine sqS 0 rfl ty45 (od rfl) ?_
  refine sqN fun a w bs hl hS => ?_
  obtain ⟨b_20, rfl⟩ := len1 hl
  have hS : St _ F0 [Item.box (α := S_api_Turn) 45 b_20 (v_18 : S_api_Turn)] ((11, Pr.ptr b_20) :: _) w0 _ _ := hS
  have hS := st_freezeB 0 11 hS rfl rfl
  refine et ?_
  refine ws ?_
  refine ws ?_
  refine st_reg mixed (by kernel_rfl) hS ?_
  refine cg (sp_fieldAddr fd45_3 (od rfl)) ?_
  refine cg (sp_load ty3 (od rfl)) ?_
  refine cg (sp_neq (od rfl) (odi)) ?_
  refine sn fun a w hS => ?_
  refine et ?_
  obtain ⟨y_22, hj_21, h⟩ := bind_some h
  refine wp_mono (Q := fun e a w => e = Exit.normal ∧ St 128 F0 [] [(2, isV (α := List Int) p2), (3, isA (α := S_api_Roster) p0), (9, isV (α := Int) y_22)] w0 a w) ?_ ?_
  · refine st_cond hS rfl (fun hb => ?_) (fun hb => ?_)
    · have h := ite_t hb hj_21
      obtain ⟨v_23, e_24, h⟩ := bind_some h
      obtain ⟨v_25, e_26, h⟩ := bind_some h
      refine st_reg mixed (by kernel_rfl) hS ?_
      refine mv rfl ?_
      refine cg (sp_fieldAddr fd45_4 (od rfl)) ?_
      refine cg (sp_load ty3 (od rfl)) ?_
      refine cg (sp_fieldAddr fd25_2 (od rfl)) ?_
      refine cg (sp_load ty3 (od rfl)) ?_
      refine cg (sp_sub (od rfl) (od rfl)) ?_
      refine cg (sp_fieldAddr fd25_3 (od rfl)) ?_
      refine cg (sp_load ty22 (od rfl)) ?_
      refine cg (sp_fieldAddr fd45_3 (od rfl)) ?_
      refine cg (sp_load ty3 (od rfl)) ?_
      refine cg (sp_indexAddr sl22 (od rfl) (od rfl) e_24) ?_
      refine cg (sp_load ty26 (od rfl)) ?_
      refine cg (sp_indexAddr sl26 (od rfl) (odi) e_26) ?_
      refine cg (sp_load ty3 (od rfl)) ?_
      refine cg (sp_sub (od rfl) (od rfl)) ?_
      refine cg (sp_min (od rfl) (od rfl)) ?_
      refine cg (sp_assign (od rfl)) ?_
      refine sn fun a w hS => ?_
      cases h
      exact ⟨rfl, hS.weak ⟨od rfl, od rfl, od rfl, trivial⟩⟩
    have h := ite_f hb hj_21
    refine wp_skip ?_
    cases h
    exact ⟨rfl, hS.weak ⟨od rfl, od rfl, od rfl, trivial⟩⟩
  rintro e a w ⟨rfl, hS⟩
  refine et ?_
  refine ws ?_
  refine ws ?_
  refine st_reg mixed (by kernel_rfl) hS ?_
  refine cg (sp_assign (odi)) ?_
  refine sn fun a w hS => ?_
  refine et ?_
  refine wp_block ?_
  obtain ⟨o_28, e_29, hr_30⟩ := bind_some h
  refine c_loop (fun K a w => ∃ s_27 : Int × Int, loopM _ K s_27 = some o_28 ∧ St 128 F0 [] [(2, isV (α := List Int) p2), (3, isA (α := S_api_Roster) p0), (9, isV (α := Int) s_27.1), (12, isV (α := Int) s_27.2)] w0 a w) ?_ ?_ ⟨_, e_29, hS.weak ⟨od rfl, od rfl, od rfl, od rfl, trivial⟩⟩
  · rintro a w ⟨_, hk, _⟩; cases hk
  rintro K a w ⟨s_27, hF_28, hS⟩
  obtain ⟨o, h, hN_28, hL_28⟩ := loop_more hF_28
  refine ws ?_
  refine ws ?_
  refine st_reg mixed (by kernel_rfl) hS ?_
  refine mv rfl ?_
  refine mv rfl ?_
  refine cg (sp_len Tryz.underlying26 (od rfl)) ?_
  refine cg (sp_lss (od rfl) (od rfl)) ?_
  refine sn fun a w hS => ?_
  refine et ?_
  refine st_cond hS rfl (fun hb => ?_) (fun hb => ?_)
  · have h := ite_t hb h
    refine wp_skip ?_
    refine et ?_
    refine ws ?_
    refine wp_block ?_
    refine ws ?_
    obtain ⟨v_31, e_32, h⟩ := bind_some h
    obtain ⟨v_33, e_34, h⟩ := bind_some h
    have hS := hS.weak (Δ := [(2, isV (α := List Int) p2), (3, isA (α := S_api_Roster) p0), (9, isV (α := Int) s_27.1), (12, isV (α := Int) s_27.2), (81, isV (α := Int) s_27.2), (82, isV (α := List Int) p2), (83, isV (α := Int) (p2.length : Int)), (84, isV (α := Bool) (decide (s_27.2 < (p2.length : Int))))]) ⟨od rfl, od rfl, od rfl, od rfl, od rfl, od rfl, od rfl, od rfl, trivial⟩
    refine st_pairs mixed [0, 0, 0, 0, 0, 0, 0, 0, 0, 3, 4] [⟨9, 10, 13, 45, S_api_Turn, inferInstance, ((0, 0, 0, 0, 0, 0) : S_api_Turn), v_33⟩] (by kernel_rfl) (by kernel_rfl) hS ⟨fun _ _ _ _ h => h, fun _ _ _ _ h => h, fun _ _ _ _ h => h, fun _ _ _ _ h => h, fun _ _ _ _ h => h, fun _ _ _ _ h => h, fun _ _ _ _ h => h, fun _ _ _ _ h => h, trivial⟩ ?_
    refine sq0 (fun _ _ _ _ h => h) (sg (sp_fieldAddr fd25_4 (od rfl))) ?_
    refine sq0 (fun _ _ _ _ h => h) (sg (sp_load ty23 (od rfl))) ?_
    refine sq0 (fun _ _ _ _ h => h) (sg (sp_move (od rfl))) ?_
    refine sq0 (fun _ _ _ _ h => h) (sg (sp_move (od rfl))) ?_
    refine sq0 (fun _ _ _ _ h => h) (sg (sp_sub (od rfl) (odi))) ?_
    refine sq0 (fun _ _ _ _ h => h) (sg (sp_indexAddr sl26 (od rfl) (od rfl) e_32)) ?_
    refine sq0 (fun _ _ _ _ h => h) (sg (sp_load ty3 (od rfl))) ?_
    refine sq0 (fun _ _ _ _ h => h) (sg (sp_indexAddr sl23 (od rfl) (od rfl) e_34)) ?_
    refine sq0 (fun _ _ _ _ h => h) (sg (sp_load ty45 (od rfl))) ?_
    refine sqA 0 rfl zi45 ?_
    refine sqS 0 rfl ty45 (od rfl) ?_
    refine sqN fun a w bs hl hS => ?_
    obtain ⟨b_35, rfl⟩ := len1 hl
    have hS : St _ F0 [Item.box (α := S_api_Turn) 45 b_35 (v_33 : S_api_Turn)] ((13, Pr.ptr b_35) :: _) w0 _ _ := hS
    have hS := st_freezeB 0 13 hS rfl rfl
    refine et ?_
    refine ws ?_
    obtain ⟨v_36, e_37, h⟩ := bind_some h
    obtain ⟨v_38, e_39, h⟩ := bind_some h
    have hS := hS.weak (Δ := [(2, isV (α := List Int) p2), (3, isA (α := S_api_Roster) p0), (9, isV (α := Int) s_27.1), (12, isV (α := Int) s_27.2), (13, isA (α := S_api_Turn) (v_33 : S_api_Turn)), (81, isV (α := Int) s_27.2), (82, isV (α := List Int) p2), (83, isV (α := Int) (p2.length : Int)), (84, isV (α := Bool) (decide (s_27.2 < (p2.length : Int)))), (87, isA (α := List S_api_Turn) p0.2.2.2.2), (88, isV (α := List S_api_Turn) p0.2.2.2.2), (89, isV (α := List Int) p2), (90, isV (α := Int) s_27.2), (91, isV (α := Int) (wr (s_27.2 - 1))), (92, isA (α := Int) v_31), (93, isV (α := Int) v_31), (94, isA (α := S_api_Turn) v_33), (95, isV (α := S_api_Turn) v_33)]) ⟨od rfl, od rfl, od rfl, od rfl, od rfl, od rfl, od rfl, od rfl, od rfl, od rfl, od rfl, od rfl, od rfl, od rfl, od rfl, od rfl, od rfl, od rfl, trivial⟩
    refine st_pairs mixed [0, 0, 0, 0, 0, 0, 0, 0, 3, 4] [⟨8, 9, 14, 45, S_api_Turn, inferInstance, ((0, 0, 0, 0, 0, 0) : S_api_Turn), v_38⟩] (by kernel_rfl) (by kernel_rfl) hS ⟨fun _ _ _ _ h => h, fun _ _ _ _ h => h, fun _ _ _ _ h => h, fun _ _ _ _ h => h, fun _ _ _ _ h => h, fun _ _ _ _ h => h, fun _ _ _ _ h => h, fun _ _ _ _ h => h, fun _ _ _ _ h => h, fun _ _ _ _ h => h, fun _ _ _ _ h => h, fun _ _ _ _ h => h, fun _ _ _ _ h => h, fun _ _ _ _ h => h, fun _ _ _ _ h => h, fun _ _ _ _ h => h, fun _ _ _ _ h => h, fun _ _ _ _ h => h, trivial⟩ ?_
    refine sq0 (fun _ _ _ _ h => h) (sg (sp_fieldAddr fd25_4 (od rfl))) ?_
    refine sq0 (fun _ _ _ _ h => h) (sg (sp_load ty23 (od rfl))) ?_
    refine sq0 (fun _ _ _ _ h => h) (sg (sp_move (od rfl))) ?_
    refine sq0 (fun _ _ _ _ h => h) (sg (sp_move (od rfl))) ?_
    refine sq0 (fun _ _ _ _ h => h) (sg (sp_indexAddr sl26 (od rfl) (od rfl) e_37)) ?_
    refine sq0 (fun _ _ _ _ h => h) (sg (sp_load ty3 (od rfl))) ?_
    refine sq0 (fun _ _ _ _ h => h) (sg (sp_indexAddr sl23 (od rfl) (od rfl) e_39)) ?_
    refine sq0 (fun _ _ _ _ h => h) (sg (sp_load ty45 (od rfl))) ?_
    refine sqA 0 rfl zi45 ?_
    refine sqS 0 rfl ty45 (od rfl) ?_
    refine sqN fun a w bs hl hS => ?_
    obtain ⟨b_40, rfl⟩ := len1 hl
    have hS : St _ F0 [Item.box (α := S_api_Turn) 45 b_40 (v_38 : S_api_Turn)] ((14, Pr.ptr b_40) :: _) w0 _ _ := hS
    have hS := st_freezeB 0 14 hS rfl rfl
    refine et ?_
    refine ws ?_
    refine st_reg mixed (by kernel_rfl) hS ?_
    refine cg (sp_fieldAddr fd45_3 (od rfl)) ?_
    refine cg (sp_load ty3 (od rfl)) ?_
    refine cg (sp_fieldAddr fd45_1 (od rfl)) ?_
    refine cg (sp_load ty3 (od rfl)) ?_
    refine cg (sp_neq (od rfl) (od rfl)) ?_
    refine sn fun a w hS => ?_
    refine et ?_
    obtain ⟨y_42, hj_41, h⟩ := bind_some h
    refine wp_mono (Q := fun e a w => e = Exit.normal ∧ St 128 F0 [] [(2, isV (α := List Int) p2), (3, isA (α := S_api_Roster) p0), (9, isV (α := Int) y_42), (12, isV (α := Int) s_27.2)] w0 a w) ?_ ?_
    · refine st_cond hS rfl (fun hb => ?_) (fun hb => ?_)
      · have h := ite_t hb hj_41
        obtain ⟨v_43, e_44, h⟩ := bind_some h
        obtain ⟨v_45, e_46, h⟩ := bind_some h
        refine st_reg mixed (by kernel_rfl) hS ?_
        refine mv rfl ?_
        refine cg (sp_fieldAddr fd45_4 (od rfl)) ?_
        refine cg (sp_load ty3 (od rfl)) ?_
        refine cg (sp_fieldAddr fd45_2 (od rfl)) ?_
        refine cg (sp_load ty3 (od rfl)) ?_
        refine cg (sp_sub (od rfl) (od rfl)) ?_
        refine cg (sp_fieldAddr fd25_3 (od rfl)) ?_
        refine cg (sp_load ty22 (od rfl)) ?_
        refine cg (sp_fieldAddr fd45_3 (od rfl)) ?_
        refine cg (sp_load ty3 (od rfl)) ?_
        refine cg (sp_indexAddr sl22 (od rfl) (od rfl) e_44) ?_
        refine cg (sp_load ty26 (od rfl)) ?_
        refine cg (sp_fieldAddr fd45_1 (od rfl)) ?_
        refine cg (sp_load ty3 (od rfl)) ?_
        refine cg (sp_indexAddr sl26 (od rfl) (od rfl) e_46) ?_
        refine cg (sp_load ty3 (od rfl)) ?_
        refine cg (sp_sub (od rfl) (od rfl)) ?_
        refine cg (sp_min (od rfl) (od rfl)) ?_
        refine cg (sp_assign (od rfl)) ?_
        refine sn fun a w hS => ?_
        cases h
        exact ⟨rfl, hS.weak ⟨od rfl, od rfl, od rfl, od rfl, trivial⟩⟩
      have h := ite_f hb hj_41
      refine wp_skip ?_
      cases h
      exact ⟨rfl, hS.weak ⟨od rfl, od rfl, od rfl, od rfl, trivial⟩⟩
    rintro e a w ⟨rfl, hS⟩
    refine exit_block ?_
    refine et ?_
    refine st_reg mixed (by kernel_rfl) hS ?_
    refine mv rfl ?_
    refine cg (sp_add (od rfl) (odi)) ?_
    refine cg (sp_assign (od rfl)) ?_
    refine sn fun a w hS => ?_
    cases h
    exact ⟨_, hN_28 _ rfl, hS.weak ⟨od rfl, od rfl, od rfl, od rfl, trivial⟩⟩
  have h := ite_f hb h
  refine wp_exit ?_
  refine exit_thenE ?_
  cases h
  obtain rfl := hL_28 _ rfl
  have h := hr_30
  refine exit_thenE ?_
  refine exit_here ?_
  refine et ?_
  refine ws ?_
  refine st_reg mixed (by kernel_rfl) hS ?_
  refine mv rfl ?_
  refine cg (sp_assign (od rfl)) ?_
  refine cg (sp_assign (odi)) ?_
  refine sn fun a w hS => ?_
  refine et ?_
  refine wp_ret ?_
  cases h
  exact st_ret hS (run_results2 Tryz.results58 a w) (⟨_, rfl, hS.get rfl, hS.get rfl, trivial⟩)

theorem f10_ok {fuel : Nat} {p0 : S_api_Roster} {p1 : Int} {p2 : List Int} {r : Bool} (h : M.f10 fuel p0 p1 p2 = some r) : CallT Tryz.prog 10 [isV p0, isV p1, isV p2] (isV r) := by
  unfold M.f10 at h
  refine callT_of Tryz.func10 rfl Tryz.ntmps10 rfl fun F0 w0 a hT hS => ?_
  refine ws ?_
  refine st_reg mixed (by kernel_rfl) hS ?_
  refine cg (sp_box (od rfl)) ?_
  refine cg (sp_assign (odb)) ?_
  refine sn fun a w hS => ?_
  refine et ?_
  refine ws ?_
  refine ws ?_
  obtain ⟨v_1, e_2, h⟩ := bind_some h
  refine l_start ?_
  refine s_callT en16 (f16_ok e_2) hT hS trivial rfl fun a w hS hM => ?_
  refine s_c hS (sg (sp_not (od rfl))) rfl fun a w hS hM => ?_
  refine l_end ?_
  refine et ?_
  refine st_cond hS rfl (fun hb => ?_) (fun hb => ?_)
  · have h := ite_t hb h
    refine ws ?_
    refine st_reg mixed (by kernel_rfl) hS ?_
    refine cg (sp_assign (odb)) ?_
    refine sn fun a w hS => ?_
    refine et ?_
    refine wp_ret ?_
    refine exit_thenR ?_
    cases h
    exact st_ret hS (run_results1 Tryz.results10 a w) (hS.get rfl)
  have h := ite_f hb h
  refine wp_skip ?_
  refine et ?_
  refine ws ?_
  refine ws ?_
  obtain ⟨v_3, e_4, h⟩ := bind_some h
  refine st_reg mixed (by kernel_rfl) hS ?_
  refine cg (sp_load ty25 (od rfl)) ?_
  refine mv rfl ?_
  refine cg (sp_buildSlice [.tmp 18] ([p2] : List (List Int)) sl22 ze26 rfl rfl rfl rfl ⟨od rfl, trivial⟩) ?_
  refine cg (sp_call en17 (f17_ok e_4) ⟨od rfl, od rfl, trivial⟩) ?_
  refine cg (sp_not (od rfl)) ?_
  refine sn fun a w hS => ?_
  refine et ?_
  refine st_cond hS rfl (fun hb => ?_) (fun hb => ?_)
  · have h := ite_t hb h
    refine ws ?_
    refine st_reg mixed (by kernel_rfl) hS ?_
    refine cg (sp_assign (odb)) ?_
    refine sn fun a w hS => ?_
    refine et ?_
    refine wp_ret ?_
    refine exit_thenR ?_
    cases h
    exact st_ret hS (run_results1 Tryz.results10 a w) (hS.get rfl)
  have h := ite_f hb h
  refine wp_skip ?_
  refine et ?_
  refine ws ?_
  obtain ⟨v_5, e_6, h⟩ := bind_some h
  refine st_reg mixed (by kernel_rfl) hS ?_
  refine cg (sp_load ty25 (od rfl)) ?_
  refine mv rfl ?_
  refine cg (sp_call en55 (f55_ok e_6) ⟨od rfl, od rfl, trivial⟩) ?_
  refine mv rfl ?_
  refine cg (sp_extract (od rfl) rfl) ?_
  refine cg (sp_extract (od rfl) rfl) ?_
  refine cg (sp_assign (od rfl)) ?_
  refine cg (sp_assign (od rfl)) ?_
  refine sn fun a w hS => ?_
  refine et ?_
  refine ws ?_
  obtain ⟨v_7, e_8, h⟩ := bind_some h
  refine st_reg mixed (by kernel_rfl) hS ?_
  refine cg (sp_load ty25 (od rfl)) ?_
  refine mv rfl ?_
  refine cg (sp_call en56 (f56_ok e_8) ⟨od rfl, od rfl, trivial⟩) ?_
  refine mv rfl ?_
  refine cg (sp_extract (od rfl) rfl) ?_
  refine cg (sp_extract (od rfl) rfl) ?_
  refine cg (sp_assign (od rfl)) ?_
  refine cg (sp_assign (od rfl)) ?_
  refine sn fun a w hS => ?_
  refine et ?_
  refine ws ?_
  obtain ⟨v_9, e_10, h⟩ := bind_some h
  refine st_reg mixed (by kernel_rfl) hS ?_
  refine cg (sp_load ty25 (od rfl)) ?_
  refine mv rfl ?_
  refine mv rfl ?_
  refine cg (sp_call en57 (f57_ok e_10) ⟨od rfl, od rfl, od rfl, trivial⟩) ?_
  refine mv rfl ?_
  refine cg (sp_extract (od rfl) rfl) ?_
  refine cg (sp_extract (od rfl) rfl) ?_
  refine cg (sp_assign (od rfl)) ?_
  refine cg (sp_assign (od rfl)) ?_
  refine sn fun a w hS => ?_
  refine et ?_
  refine ws ?_
  obtain ⟨v_11, e_12, h⟩ := bind_some h
  refine st_reg mixed (by kernel_rfl) hS ?_
  refine cg (sp_load ty25 (od rfl)) ?_
  refine mv rfl ?_
  refine mv rfl ?_
  refine cg (sp_call en58 (f58_ok e_12) ⟨od rfl, od rfl, od rfl, trivial⟩) ?_
  refine mv rfl ?_
  refine cg (sp_extract (od rfl) rfl) ?_
  refine cg (sp_extract (od rfl) rfl) ?_
  refine cg (sp_assign (od rfl)) ?_
  refine cg (sp_assign (od rfl)) ?_
  refine sn fun a w hS => ?_
  refine et ?_
  refine ws ?_
  obtain ⟨v_13, e_14, h⟩ := bind_some h
  refine st_reg mixed (by kernel_rfl) hS ?_
  refine mv rfl ?_
  refine mv rfl ?_
  refine cg (sp_call en24 (f24_ok e_14) ⟨od rfl, od rfl, trivial⟩) ?_
  refine mv rfl ?_
  refine sc (sgT rfl fun hG => sp_move (od rfl)) ?_
  refine sc (sgT rfl fun hG => sp_move (od rfl)) ?_
  refine sc (sgT rfl fun hG => sp_eql (odw rfl hG) (odw rfl hG)) ?_
  refine cg (sp_pickAnd (od rfl) fun hg => odw rfl hg) ?_
  refine mv rfl ?_
  refine sc (sgT rfl fun hG => sp_move (od rfl)) ?_
  refine sc (sgT rfl fun hG => sp_move (od rfl)) ?_
  refine sc (sgT rfl fun hG => sp_eql (odw rfl hG) (odw rfl hG)) ?_
  refine cg (sp_pickAnd (od rfl) fun hg => odw rfl hg) ?_
  refine mv rfl ?_
  refine sc (sgT rfl fun hG => sp_move (od rfl)) ?_
  refine sc (sgT rfl fun hG => sp_move (od rfl)) ?_
  refine sc (sgT rfl fun hG => sp_eql (odw rfl hG) (odw rfl hG)) ?_
  refine cg (sp_pickAnd (od rfl) fun hg => odw rfl hg) ?_
  refine cg (sp_assign (od rfl)) ?_
  refine sn fun a w hS => ?_
  refine et ?_
  refine wp_ret ?_
  cases h
  exact st_ret hS (run_results1 Tryz.results10 a w) (hS.get rfl)

end Go.Proofs.YthogdhepjcomjaaGreatDoor
