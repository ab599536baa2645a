/-
  What is proved: each Go function named here returns what its model tells, and changes nothing that was there; where the model tells something.
-/
import Derived.Test.YthogdhepjcomjaaGreatDoorWalkO
import Derived.Test.YthogdhepjcomjaaGreatDoorGivenT
import Derived.Test.YthogdhepjcomjaaGreatDoorModelP
set_option linter.unusedVariables false
set_option maxRecDepth 100000
namespace Go.Proofs.YthogdhepjcomjaaGreatDoor
open Go Go.RowKit Go.Proofs.YthogdhepjcomjaaGreatDoor.Wh

theorem f63_ok {p0 : S_api_Roster} {p1 : Int} {r : S_api_Roster × Bool} (h : M.f63 p0 p1 = some r) : CallOK Tryz.prog 63 [isV p0, isV p1] (isTup [isV r.1, isV r.2]) := by
  unfold M.f63 at h
  refine callS_of Tryz.func63 rfl Tryz.ntmps63 rfl fun F0 w0 a hS => ?_
  refine ws ?_
  refine l_start ?_
  refine s_c hS (sg (sp_box (od rfl))) rfl fun a w hS hM => ?_
  refine s_alloc zi25 hS rfl fun a w b_1 hS hM => ?_
  have hS : St _ F0 [Item.box (α := S_api_Roster) 25 b_1 ((0, 0, 0, [], []) : S_api_Roster)] _ w0 _ _ := hS
  refine s_c hS (sg (sp_assign (odb))) rfl fun a w hS hM => ?_
  refine l_end ?_
  refine et ?_
  refine ws ?_
  refine l_start ?_
  refine s_c hS (sg (sp_load ty25 (od rfl))) rfl fun a w hS hM => ?_
  refine s_alloc ziR25_ hS rfl fun a w b_2 hS hM => ?_
  have hS : St _ F0 [Item.box (α := S_api_Roster) 25 b_1 ((0, 0, 0, [], []) : S_api_Roster), Item.box (α := Int × Int × Int × (List (List Int)) × (List S_api_Turn)) 25 b_2 ((0 : Int), (0 : Int), (0 : Int), ([] : List (List Int)), ([] : List S_api_Turn))] _ w0 _ _ := hS
  have hS : St _ F0 [Item.box (α := S_api_Roster) 25 b_1 ((0, 0, 0, [], []) : S_api_Roster), Item.box (α := Int × Int × Int × (List (List Int)) × (List S_api_Turn)) 25 b_2 ((0 : Int), (0 : Int), (0 : Int), ([] : List (List Int)), ([] : List S_api_Turn))] _ w0 _ _ := hS
  refine s_storeB (α := S_api_Roster) (k := 1) (Δ := [(1, isV (α := Int) p1), (2, isA (α := S_api_Roster) p0), (4, Pr.ptr b_1), (6, Pr.ptr b_2), (7, isV (α := S_api_Roster) p0)]) ty25 hS rfl ⟨od rfl, od rfl, od rfl, od rfl, od rfl, trivial⟩ ⟨fun _ _ _ _ h => h, fun _ _ _ _ h => h, fun _ _ _ _ h => h, fun _ _ _ _ h => h, fun _ _ _ _ h => h, trivial⟩ rfl (od rfl) fun w hS hM => ?_
  have hS : St _ F0 [Item.box (α := S_api_Roster) 25 b_1 ((0, 0, 0, [], []) : S_api_Roster), Item.box (α := Int × Int × Int × (List (List Int)) × (List S_api_Turn)) 25 b_2 (p0.1, p0.2.1, p0.2.2.1, p0.2.2.2.1, p0.2.2.2.2)] _ w0 _ _ := hS
  refine l_end ?_
  refine et ?_
  refine ws ?_
  obtain ⟨m_3, e_4, h⟩ := bind_some h
  refine l_start ?_
  refine s_c hS (sg (sp_fieldAddr fd25_4 (od rfl))) rfl fun a w hS hM => ?_
  refine s_c hS (sg (sp_load ty23 (od rfl))) rfl fun a w hS hM => ?_
  refine s_callI en61 (f61_ok e_4) hS ⟨od rfl, trivial⟩ rfl fun a w u_5 x_6 hS hM => ?_
  have hS : St _ F0 [Item.box (α := S_api_Roster) 25 b_1 ((0, 0, 0, [], []) : S_api_Roster), Item.box (α := Int × Int × Int × (List (List Int)) × (List S_api_Turn)) 25 b_2 (p0.1, p0.2.1, p0.2.2.1, p0.2.2.2.1, p0.2.2.2.2), Item.sl (α := S_api_Turn) 45 u_5 m_3] _ w0 _ _ := hS
  refine s_c hS (sg (sp_fieldAddrP fo25_4 (od rfl))) rfl fun a w hS hM => ?_
  obtain ⟨v_7, hS⟩ := st_toraw (α := Int × Int × Int × (List (List Int)) × (List S_api_Turn)) 1 hS rfl (ToR.snd (ToR.snd (ToR.snd (ToR.snd ToR.self))))
  refine s_storeP (k := 1) (off := 4) (Δ := [(1, isV (α := Int) p1), (2, isA (α := S_api_Roster) p0), (4, Pr.ptr b_1), (6, Pr.ptr b_2), (10, Pr.is u_5), (11, Pr.is (.pointer (some ⟨b_2, 4, none⟩)))]) tyR23_w hS rfl ⟨od rfl, od rfl, od rfl, od rfl, od rfl, od rfl, trivial⟩ ⟨fun _ _ _ _ h => h, fun _ _ _ _ h => h, fun _ _ _ _ h => h, fun _ _ _ _ h => h, fun _ _ _ _ h => h, fun _ _ _ _ h => h, trivial⟩ (od rfl) (odRaw (od rfl) (hS.one (k := 2) rfl)) sf25_4_4 fun w hS hM => ?_
  have hS : St _ F0 [Item.box (α := S_api_Roster) 25 b_1 ((0, 0, 0, [], []) : S_api_Roster), Item.box (α := Int × Int × Int × (List (List Int)) × Raw) 25 b_2 (p0.1, p0.2.1, p0.2.2.1, p0.2.2.2.1, (Raw.mk u_5)), Item.sl (α := S_api_Turn) 45 u_5 m_3] _ w0 _ _ := hS
  refine l_end ?_
  refine et ?_
  refine ws ?_
  refine ws ?_
  refine st_reg mixed (by kernel_rfl) hS ?_
  refine cg (sp_fieldAddr fd25_0 (od rfl)) ?_
  refine cg (sp_load ty3 (od rfl)) ?_
  refine cg (sp_eql (od rfl) (odi)) ?_
  refine sn fun a w hS => ?_
  refine et ?_
  refine st_cond hS rfl (fun hb => ?_) (fun hb => ?_)
  · have h := ite_t hb h
    refine ws ?_
    have hS := hS.weak (Δ := [(1, isV (α := Int) p1), (2, isA (α := S_api_Roster) p0), (4, Pr.ptr b_1), (6, Pr.ptr b_2), (10, Pr.is u_5), (11, Pr.is (.pointer (some ⟨b_2, 4, none⟩))), (12, isA (α := Int) p0.1), (13, isV (α := Int) p0.1), (14, isV (α := Bool) (p0.1 == 8))]) ⟨od rfl, od rfl, od rfl, od rfl, od rfl, od rfl, od rfl, od rfl, od rfl, trivial⟩
    have hS := st_unraw 2 1 hS rfl rfl (UnR.snd (UnR.snd (UnR.snd (UnR.snd UnR.self))))
    have hS : St _ F0 [Item.box (α := S_api_Roster) 25 b_1 ((0, 0, 0, [], []) : S_api_Roster), Item.box (α := S_api_Roster) 25 b_2 ((p0.1, p0.2.1, p0.2.2.1, p0.2.2.2.1, m_3) : S_api_Roster)] _ w0 _ _ := hS
    have hS := st_freezeB 1 6 hS rfl rfl
    refine l_start ?_
    refine s_c hS (sg (sp_load ty25 (od rfl))) rfl fun a w hS hM => ?_
    refine s_storeB (k := 0) (Δ := [(4, Pr.ptr b_1), (15, isV (α := S_api_Roster) ((p0.1, p0.2.1, p0.2.2.1, p0.2.2.2.1, m_3) : S_api_Roster))]) ty25 hS rfl ⟨od rfl, od rfl, trivial⟩ ⟨fun _ _ _ _ h => h, fun _ _ _ _ h => h, trivial⟩ rfl (od rfl) fun w hS hM => ?_
    have hS : St _ F0 [Item.box (α := S_api_Roster) 25 b_1 ((p0.1, p0.2.1, p0.2.2.1, p0.2.2.2.1, m_3) : S_api_Roster)] _ w0 _ _ := hS
    refine s_c hS (sg (sp_assign (odb))) rfl fun a w hS hM => ?_
    refine l_end ?_
    refine et ?_
    refine wp_ret ?_
    refine exit_thenR ?_
    have hS := st_freezeB 0 4 hS rfl rfl
    cases h
    obtain ⟨v, hr, hv⟩ := run_resC2 Tryz.results63 ty25 (hS.get rfl)
    exact st_ret hS hr ⟨_, rfl, hv, hS.get rfl, trivial⟩
  have h := ite_f hb h
  refine wp_skip ?_
  refine et ?_
  refine ws ?_
  refine l_start ?_
  refine s_c hS (sg (sp_fieldAddr fd25_0 (od rfl))) rfl fun a w hS hM => ?_
  refine s_c hS (sg (sp_load ty3 (od rfl))) rfl fun a w hS hM => ?_
  refine s_c hS (sg (sp_add (od rfl) (odi))) rfl fun a w hS hM => ?_
  refine s_c hS (sg (sp_fieldAddrP fo25_0 (od rfl))) rfl fun a w hS hM => ?_
  refine s_storeP (k := 1) (off := 0) (Δ := [(1, isV (α := Int) p1), (2, isA (α := S_api_Roster) p0), (4, Pr.ptr b_1), (6, Pr.ptr b_2), (18, isV (α := Int) (wr (p0.1 + 1))), (19, Pr.is (.pointer (some ⟨b_2, 0, none⟩)))]) ty3 hS rfl ⟨od rfl, od rfl, od rfl, od rfl, od rfl, od rfl, trivial⟩ ⟨fun _ _ _ _ h => h, fun _ _ _ _ h => h, fun _ _ _ _ h => h, fun _ _ _ _ h => h, fun _ _ _ _ h => h, fun _ _ _ _ h => h, trivial⟩ (od rfl) (od rfl) sf25_4_0 fun w hS hM => ?_
  have hS : St _ F0 [Item.box (α := S_api_Roster) 25 b_1 ((0, 0, 0, [], []) : S_api_Roster), Item.box (α := Int × Int × Int × (List (List Int)) × Raw) 25 b_2 ((wr (p0.1 + 1)), p0.2.1, p0.2.2.1, p0.2.2.2.1, (Raw.mk u_5)), Item.sl (α := S_api_Turn) 45 u_5 m_3] _ w0 _ _ := hS
  refine l_end ?_
  refine et ?_
  refine ws ?_
  obtain ⟨v_8, e_9, h⟩ := bind_some h
  obtain ⟨z_10, e_11, h⟩ := bind_some h
  refine l_start ?_
  have hS := st_box 1 6 hS rfl rfl
  refine s_c hS (sg (sp_fieldAddrB fdR25_4_4 (odB rfl))) rfl fun a w hS hM => ?_
  refine s_c hS (sg (sp_loadRaw tyR23_w (od rfl))) rfl fun a w hS hM => ?_
  refine s_c hS (sg (sp_move (od rfl))) rfl fun a w hS hM => ?_
  refine s_c hS (sg (sp_fieldAddr fd25_0 (od rfl))) rfl fun a w hS hM => ?_
  refine s_c hS (sg (sp_load ty3 (od rfl))) rfl fun a w hS hM => ?_
  have hS := st_os 2 21 hS rfl rfl
  refine s_c hS (sg (sp_indexAddrOS sl23 (od rfl) (od rfl) e_9)) rfl fun a w hS hM => ?_
  refine s_c hS (sg (sp_fieldAddrEF fo45_0 (odEP rfl))) rfl fun a w hS hM => ?_
  refine s_storeEF (k := 2) (j := p1) (off := 0) (Δ := [(4, Pr.ptr b_1), (6, Pr.ptr b_2), (24, isV (α := Int) p0.1), (26, isEF S_api_Turn u_5 p1.toNat 0)]) ty3 hS rfl ⟨od rfl, odBx rfl, od rfl, od rfl, trivial⟩ ⟨fun _ _ _ _ h => h, fun _ _ _ _ h => h, fun _ _ _ _ h => h, fun _ _ _ _ h => h, trivial⟩ (od rfl) (od rfl) e_9 sf45__0 e_11 fun w hS hM => ?_
  have hS : St _ F0 [Item.box (α := S_api_Roster) 25 b_1 ((0, 0, 0, [], []) : S_api_Roster), Item.box (α := Int × Int × Int × (List (List Int)) × Raw) 25 b_2 ((wr (p0.1 + 1)), p0.2.1, p0.2.2.1, p0.2.2.2.1, (Raw.mk u_5)), Item.sl (α := S_api_Turn) 45 u_5 z_10] _ w0 _ _ := hS
  refine l_end ?_
  refine et ?_
  refine ws ?_
  have hS := hS.weak (Δ := [(4, Pr.ptr b_1), (6, Pr.ptr b_2), (24, isV (α := Int) p0.1), (26, isEF S_api_Turn u_5 p1.toNat 0)]) ⟨od rfl, od rfl, od rfl, od rfl, trivial⟩
  have hS := st_unraw 2 1 hS rfl rfl (UnR.snd (UnR.snd (UnR.snd (UnR.snd UnR.self))))
  have hS : St _ F0 [Item.box (α := S_api_Roster) 25 b_1 ((0, 0, 0, [], []) : S_api_Roster), Item.box (α := S_api_Roster) 25 b_2 (((wr (p0.1 + 1)), p0.2.1, p0.2.2.1, p0.2.2.2.1, z_10) : S_api_Roster)] _ w0 _ _ := hS
  have hS := st_freezeB 1 6 hS rfl rfl
  refine l_start ?_
  refine s_c hS (sg (sp_load ty25 (od rfl))) rfl fun a w hS hM => ?_
  refine s_storeB (k := 0) (Δ := [(4, Pr.ptr b_1), (27, isV (α := S_api_Roster) (((wr (p0.1 + 1)), p0.2.1, p0.2.2.1, p0.2.2.2.1, z_10) : S_api_Roster))]) ty25 hS rfl ⟨od rfl, od rfl, trivial⟩ ⟨fun _ _ _ _ h => h, fun _ _ _ _ h => h, trivial⟩ rfl (od rfl) fun w hS hM => ?_
  have hS : St _ F0 [Item.box (α := S_api_Roster) 25 b_1 (((wr (p0.1 + 1)), p0.2.1, p0.2.2.1, p0.2.2.2.1, z_10) : S_api_Roster)] _ w0 _ _ := hS
  refine s_c hS (sg (sp_assign (odb))) rfl fun a w hS hM => ?_
  refine l_end ?_
  refine et ?_
  refine wp_ret ?_
  have hS := st_freezeB 0 4 hS rfl rfl
  cases h
  obtain ⟨v, hr, hv⟩ := run_resC2 Tryz.results63 ty25 (hS.get rfl)
  exact st_ret hS hr ⟨_, rfl, hv, hS.get rfl, trivial⟩

theorem f64_ok {p0 : Int} {c0 : List Int} {r : Bool} (h : M.f64 p0 c0 = some r) : CallOK Tryz.prog 64 [isV p0, isA c0] (isV r) := by
  unfold M.f64 at h
  refine callS_of Tryz.func64 rfl Tryz.ntmps64 rfl fun F0 w0 a hS => ?_
  refine ws ?_
  refine st_reg mixed (by kernel_rfl) hS ?_
  refine cg (sp_assign (odb)) ?_
  refine sn fun a w hS => ?_
  refine et ?_
  refine ws ?_
  obtain ⟨v_1, e_2, h⟩ := bind_some h
  refine st_reg mixed (by kernel_rfl) hS ?_
  refine cg (sp_load ty26 (od rfl)) ?_
  refine mv rfl ?_
  refine cg (sp_call en44 (f44_ok e_2) ⟨od rfl, od rfl, trivial⟩) ?_
  refine cg (sp_not (od rfl)) ?_
  refine cg (sp_assign (od rfl)) ?_
  refine sn fun a w hS => ?_
  refine et ?_
  refine wp_ret ?_
  cases h
  exact st_ret hS (run_results1 Tryz.results64 a w) (hS.get rfl)

theorem f14_ok {fuel : Nat} {p0 : S_api_Roster} {p1 : Int} {p2 : List Int} {p3 : Int} {r : Bool} (h : M.f14 fuel p0 p1 p2 p3 = some r) : CallT Tryz.prog 14 [isV p0, isV p1, isV p2, isV p3] (isV r) := by
  unfold M.f14 at h
  refine callT_of Tryz.func14 rfl Tryz.ntmps14 rfl fun F0 w0 a hT hS => ?_
  refine ws ?_
  refine st_reg mixed (by kernel_rfl) hS ?_
  refine cg (sp_box (od rfl)) ?_
  refine cg (sp_assign (odb)) ?_
  refine sn fun a w hS => ?_
  refine et ?_
  refine ws ?_
  refine ws ?_
  obtain ⟨v_1, e_2, h⟩ := bind_some h
  refine l_start ?_
  refine s_callT en16 (f16_ok e_2) hT hS trivial rfl fun a w hS hM => ?_
  refine s_c hS (sg (sp_not (od rfl))) rfl fun a w hS hM => ?_
  refine l_end ?_
  refine et ?_
  refine st_cond hS rfl (fun hb => ?_) (fun hb => ?_)
  · have h := ite_t hb h
    refine ws ?_
    refine st_reg mixed (by kernel_rfl) hS ?_
    refine cg (sp_assign (odb)) ?_
    refine sn fun a w hS => ?_
    refine et ?_
    refine wp_ret ?_
    refine exit_thenR ?_
    cases h
    exact st_ret hS (run_results1 Tryz.results14 a w) (hS.get rfl)
  have h := ite_f hb h
  refine wp_skip ?_
  refine et ?_
  refine ws ?_
  refine ws ?_
  obtain ⟨v_3, e_4, h⟩ := bind_some h
  obtain ⟨v_5, e_6, h⟩ := bind_some h
  refine st_reg mixed (by kernel_rfl) hS ?_
  refine cg (sp_load ty25 (od rfl)) ?_
  refine cg (sp_call en33 (f33_ok e_4) ⟨od rfl, trivial⟩) ?_
  refine cg (sp_not (od rfl)) ?_
  refine mv rfl ?_
  refine sc (sgF rfl fun hG => sp_load ty25 (od rfl)) ?_
  refine sc (sgF rfl fun hG => sp_move (od rfl)) ?_
  refine sc (sgF rfl fun hG => sp_buildSlice [.tmp 31] ([p2] : List (List Int)) sl22 ze26 rfl rfl rfl rfl ⟨odw rfl hG, trivial⟩) ?_
  refine sc (sgF rfl fun hG => sp_call en17 (f17_ok (guard_some e_6 hG)) ⟨odw rfl hG, odw rfl hG, trivial⟩) ?_
  refine sc (sgF rfl fun hG => sp_not (odw rfl hG)) ?_
  refine cg (sp_pickOr (od rfl) fun hg => odw rfl (not_t hg)) ?_
  refine mv rfl ?_
  refine sc (sgF rfl fun hG => sp_move (od rfl)) ?_
  refine sc (sgF rfl fun hG => sp_lss (odw rfl hG) (odi)) ?_
  refine cg (sp_pickOr (od rfl) fun hg => odw rfl (not_t hg)) ?_
  refine mv rfl ?_
  refine sc (sgF rfl fun hG => sp_move (od rfl)) ?_
  refine sc (sgF rfl fun hG => sp_fieldAddr fd25_0 (od rfl)) ?_
  refine sc (sgF rfl fun hG => sp_load ty3 (odw rfl hG)) ?_
  refine sc (sgF rfl fun hG => sp_geq (odw rfl hG) (odw rfl hG)) ?_
  refine cg (sp_pickOr (od rfl) fun hg => odw rfl (not_t hg)) ?_
  refine mv rfl ?_
  refine sc (sgF rfl fun hG => sp_move (od rfl)) ?_
  refine sc (sgF rfl fun hG => sp_lss (odw rfl hG) (odi)) ?_
  refine cg (sp_pickOr (od rfl) fun hg => odw rfl (not_t hg)) ?_
  refine mv rfl ?_
  refine sc (sgF rfl fun hG => sp_move (od rfl)) ?_
  refine sc (sgF rfl fun hG => sp_fieldAddr fd25_4 (od rfl)) ?_
  refine sc (sgF rfl fun hG => sp_load ty23 (odw rfl hG)) ?_
  refine sc (sgF rfl fun hG => sp_len Tryz.underlying23 (odw rfl hG)) ?_
  refine sc (sgF rfl fun hG => sp_geq (odw rfl hG) (odw rfl hG)) ?_
  refine cg (sp_pickOr (od rfl) fun hg => odw rfl (not_t hg)) ?_
  refine sn fun a w hS => ?_
  refine et ?_
  refine st_cond hS rfl (fun hb => ?_) (fun hb => ?_)
  · have h := ite_t hb h
    refine ws ?_
    refine st_reg mixed (by kernel_rfl) hS ?_
    refine cg (sp_assign (odb)) ?_
    refine sn fun a w hS => ?_
    refine et ?_
    refine wp_ret ?_
    refine exit_thenR ?_
    cases h
    exact st_ret hS (run_results1 Tryz.results14 a w) (hS.get rfl)
  have h := ite_f hb h
  refine wp_skip ?_
  refine et ?_
  refine ws ?_
  obtain ⟨v_7, e_8, h⟩ := bind_some h
  refine st_reg mixed (by kernel_rfl) hS ?_
  refine cg (sp_load ty25 (od rfl)) ?_
  refine mv rfl ?_
  refine cg (sp_call en34 (f34_ok e_8) ⟨od rfl, od rfl, trivial⟩) ?_
  refine mv rfl ?_
  refine cg (sp_extract (od rfl) rfl) ?_
  refine cg (sp_extract (od rfl) rfl) ?_
  refine cg (sp_extract (od rfl) rfl) ?_
  refine cg (sp_assign (od rfl)) ?_
  refine cg (sp_assign (od rfl)) ?_
  refine cg (sp_assign (od rfl)) ?_
  refine sn fun a w hS => ?_
  refine et ?_
  refine ws ?_
  obtain ⟨v_9, e_10, h⟩ := bind_some h
  refine st_reg mixed (by kernel_rfl) hS ?_
  refine cg (sp_load ty25 (od rfl)) ?_
  refine mv rfl ?_
  refine cg (sp_call en55 (f55_ok e_10) ⟨od rfl, od rfl, trivial⟩) ?_
  refine mv rfl ?_
  refine cg (sp_extract (od rfl) rfl) ?_
  refine cg (sp_extract (od rfl) rfl) ?_
  refine cg (sp_assign (od rfl)) ?_
  refine cg (sp_assign (od rfl)) ?_
  refine sn fun a w hS => ?_
  refine et ?_
  refine ws ?_
  refine ws ?_
  refine st_reg mixed (by kernel_rfl) hS ?_
  refine mv rfl ?_
  refine cg (sp_neq (od rfl) (odi)) ?_
  refine mv rfl ?_
  refine sc (sgF rfl fun hG => sp_move (od rfl)) ?_
  refine sc (sgF rfl fun hG => sp_move (odw rfl hG)) ?_
  refine sc (sgwT rfl fun hG => sp_move (od rfl)) ?_
  refine sc (sgwT rfl fun hG => sp_neq (odw rfl hG) (odi)) ?_
  refine sc (sgF rfl fun hG => sp_pickAnd (odw rfl hG) fun hg => odw rfl (and_mk hG hg)) ?_
  refine cg (sp_pickOr (od rfl) fun hg => odw rfl (not_t hg)) ?_
  refine mv rfl ?_
  refine sc (sgF rfl fun hG => sp_move (od rfl)) ?_
  refine sc (sgF rfl fun hG => sp_not (odw rfl hG)) ?_
  refine sc (sgF rfl fun hG => sp_move (odw rfl hG)) ?_
  refine sc (sgwT rfl fun hG => sp_move (od rfl)) ?_
  refine sc (sgwT rfl fun hG => sp_neq (odw rfl hG) (odi)) ?_
  refine sc (sgF rfl fun hG => sp_pickAnd (odw rfl hG) fun hg => odw rfl (and_mk hG hg)) ?_
  refine cg (sp_pickOr (od rfl) fun hg => odw rfl (not_t hg)) ?_
  refine sn fun a w hS => ?_
  refine et ?_
  refine st_cond hS rfl (fun hb => ?_) (fun hb => ?_)
  · have h := ite_t hb h
    refine ws ?_
    refine st_reg mixed (by kernel_rfl) hS ?_
    refine cg (sp_assign (odb)) ?_
    refine sn fun a w hS => ?_
    refine et ?_
    refine wp_ret ?_
    refine exit_thenR ?_
    cases h
    exact st_ret hS (run_results1 Tryz.results14 a w) (hS.get rfl)
  have h := ite_f hb h
  refine wp_skip ?_
  refine et ?_
  refine ws ?_
  obtain ⟨v_11, e_12, h⟩ := bind_some h
  refine l_start ?_
  refine s_c hS (sg (sp_load ty25 (od rfl))) rfl fun a w hS hM => ?_
  refine s_c hS (sg (sp_move (od rfl))) rfl fun a w hS hM => ?_
  refine s_c hS (sg (sp_call en63 (f63_ok e_12) ⟨od rfl, od rfl, trivial⟩)) rfl fun a w hS hM => ?_
  refine s_c hS (sg (sp_move (od rfl))) rfl fun a w hS hM => ?_
  refine s_c hS (sg (sp_extract (od rfl) rfl)) rfl fun a w hS hM => ?_
  refine s_c hS (sg (sp_extract (od rfl) rfl)) rfl fun a w hS hM => ?_
  refine s_allocStore ze25 hS (od rfl) (fun k hk => by cases hk; rfl) rfl fun a w hS hM => ?_
  refine s_c hS (sg (sp_assign (od rfl))) rfl fun a w hS hM => ?_
  refine l_end ?_
  refine et ?_
  refine ws ?_
  refine ws ?_
  refine st_reg mixed (by kernel_rfl) hS ?_
  refine mv rfl ?_
  refine cg (sp_not (od rfl)) ?_
  refine sn fun a w hS => ?_
  refine et ?_
  refine st_cond hS rfl (fun hb => ?_) (fun hb => ?_)
  · have h := ite_t hb h
    refine ws ?_
    refine st_reg mixed (by kernel_rfl) hS ?_
    refine cg (sp_assign (odb)) ?_
    refine sn fun a w hS => ?_
    refine et ?_
    refine wp_ret ?_
    refine exit_thenR ?_
    cases h
    exact st_ret hS (run_results1 Tryz.results14 a w) (hS.get rfl)
  have h := ite_f hb h
  refine wp_skip ?_
  refine et ?_
  refine ws ?_
  obtain ⟨v_13, e_14, h⟩ := bind_some h
  refine st_reg mixed (by kernel_rfl) hS ?_
  refine cg (sp_load ty25 (od rfl)) ?_
  refine mv rfl ?_
  refine cg (sp_call en34 (f34_ok e_14) ⟨od rfl, od rfl, trivial⟩) ?_
  refine mv rfl ?_
  refine cg (sp_extract (od rfl) rfl) ?_
  refine cg (sp_extract (od rfl) rfl) ?_
  refine cg (sp_extract (od rfl) rfl) ?_
  refine cg (sp_assign (od rfl)) ?_
  refine cg (sp_assign (od rfl)) ?_
  refine cg (sp_assign (od rfl)) ?_
  refine sn fun a w hS => ?_
  refine et ?_
  refine ws ?_
  obtain ⟨v_15, e_16, h⟩ := bind_some h
  refine st_reg mixed (by kernel_rfl) hS ?_
  refine cg (sp_load ty25 (od rfl)) ?_
  refine mv rfl ?_
  refine cg (sp_call en20 (f20_ok e_16) ⟨od rfl, od rfl, trivial⟩) ?_
  refine mv rfl ?_
  refine cg (sp_extract (od rfl) rfl) ?_
  refine cg (sp_extract (od rfl) rfl) ?_
  refine cg (sp_extract (od rfl) rfl) ?_
  refine cg (sp_assign (od rfl)) ?_
  refine cg (sp_assign (od rfl)) ?_
  refine cg (sp_assign (od rfl)) ?_
  refine sn fun a w hS => ?_
  refine et ?_
  refine ws ?_
  refine ws ?_
  obtain ⟨v_17, e_18, h⟩ := bind_some h
  refine st_reg mixed (by kernel_rfl) hS ?_
  refine mv rfl ?_
  refine cg (sp_neq (od rfl) (odi)) ?_
  refine mv rfl ?_
  refine sc (sgF rfl fun hG => sp_move (od rfl)) ?_
  refine sc (sgF rfl fun hG => sp_neq (odw rfl hG) (odi)) ?_
  refine cg (sp_pickOr (od rfl) fun hg => odw rfl (not_t hg)) ?_
  refine mv rfl ?_
  refine sc (sgF rfl fun hG => sp_move (od rfl)) ?_
  refine sc (sgF rfl fun hG => sp_move (od rfl)) ?_
  refine sc (sgF rfl fun hG => sp_eqlB Tryz.underlying4 (odw rfl hG) (odw rfl hG)) ?_
  refine cg (sp_pickOr (od rfl) fun hg => odw rfl (not_t hg)) ?_
  refine mv rfl ?_
  refine sc (sgF rfl fun hG => sp_move (od rfl)) ?_
  refine sc (sgF rfl fun hG => sp_move (odw rfl hG)) ?_
  refine sc (sgwT rfl fun hG => sp_load ty25 (od rfl)) ?_
  refine sc (sgwT rfl fun hG => sp_move (od rfl)) ?_
  refine sc (sgwT rfl fun hG => sp_move (od rfl)) ?_
  refine sc (sgwT rfl fun hG => sp_call en25 (f25_ok (guard_some e_18 hG)) ⟨odw rfl hG, odw rfl hG, odw rfl hG, trivial⟩) ?_
  refine sc (sgwT rfl fun hG => sp_neq (odw rfl hG) (odi)) ?_
  refine sc (sgF rfl fun hG => sp_pickAnd (odw rfl hG) fun hg => odw rfl (and_mk hG hg)) ?_
  refine cg (sp_pickOr (od rfl) fun hg => odw rfl (not_t hg)) ?_
  refine sn fun a w hS => ?_
  refine et ?_
  refine st_cond hS rfl (fun hb => ?_) (fun hb => ?_)
  · have h := ite_t hb h
    refine ws ?_
    refine st_reg mixed (by kernel_rfl) hS ?_
    refine cg (sp_assign (odb)) ?_
    refine sn fun a w hS => ?_
    refine et ?_
    refine wp_ret ?_
    refine exit_thenR ?_
    cases h
    exact st_ret hS (run_results1 Tryz.results14 a w) (hS.get rfl)
  have h := ite_f hb h
  refine wp_skip ?_
  refine et ?_
  refine ws ?_
  refine ws ?_
  refine st_reg mixed (by kernel_rfl) hS ?_
  refine mv rfl ?_
  refine cg (sp_not (od rfl)) ?_
  refine sn fun a w hS => ?_
  refine et ?_
  refine st_cond hS rfl (fun hb => ?_) (fun hb => ?_)
  · have h := ite_t hb h
    refine ws ?_
    refine st_reg mixed (by kernel_rfl) hS ?_
    refine mv rfl ?_
    refine mv rfl ?_
    refine sc (sgT rfl fun hG => sp_move (od rfl)) ?_
    refine sc (sgT rfl fun hG => sp_len Tryz.underlying26 (odw rfl hG)) ?_
    refine sc (sgT rfl fun hG => sp_eql (odw rfl hG) (odi)) ?_
    refine cg (sp_pickAnd (od rfl) fun hg => odw rfl hg) ?_
    refine cg (sp_assign (od rfl)) ?_
    refine sn fun a w hS => ?_
    refine et ?_
    refine wp_ret ?_
    refine exit_thenR ?_
    cases h
    exact st_ret hS (run_results1 Tryz.results14 a w) (hS.get rfl)
  have h := ite_f hb h
  refine wp_skip ?_
  refine et ?_
  refine ws ?_
  refine ws ?_
  refine st_reg mixed (by kernel_rfl) hS ?_
  refine mv rfl ?_
  refine mv rfl ?_
  refine cg (sp_buildSlice [.tmp 138, .tmp 139] ([v_7.1, p2] : List (List Int)) sl22 ze26 rfl rfl rfl rfl ⟨od rfl, od rfl, trivial⟩) ?_
  refine cg (sp_len Tryz.underlying22 (od rfl)) ?_
  refine cg (sp_move (odi)) ?_
  refine sn fun a w hS => ?_
  refine et ?_
  refine wp_block ?_
  obtain ⟨o_22, e_23, hr_24⟩ := bind_some h
  refine c_loop (fun K a w => ∃ k i_19 s_21, K = k + 1 ∧ ForI _ _ _ o_22 k i_19 s_21 ∧ St 194 F0 [] [(1, isV (α := Int) p1), (3, isV (α := Int) p3), (4, isA (α := S_api_Roster) p0), (9, isV (α := List Int) v_7.1), (12, isV (α := List Int) v_9.1), (16, isV (α := List Int) v_13.1), (17, isV (α := Bool) v_13.2.1), (19, isV (α := Bool) v_15.2.1), (140, isV (α := List (List Int)) ([v_7.1, p2] : List (List Int))), (141, isV (α := Int) (([v_7.1, p2] : List (List Int)).length : Int)), (142, isV (α := Int) i_19)] w0 a w) ?_ ?_ ⟨_, _, _, rfl, for_init e_23, hS.weak ⟨od rfl, od rfl, od rfl, od rfl, od rfl, od rfl, od rfl, od rfl, od rfl, od rfl, od rfl, trivial⟩⟩
  · rintro a w ⟨_, _, _, hk, _⟩; cases hk
  rintro K a w ⟨k_22, i_19, s_21, hk, hF_22, hS⟩
  obtain rfl := Nat.succ.inj hk
  refine ws ?_
  refine st_reg mixed (by kernel_rfl) hS ?_
  refine cg (sp_lss (od rfl) (od rfl)) ?_
  refine sn fun a w hS => ?_
  refine et ?_
  refine ws ?_
  refine st_cond hS rfl (fun hb => ?_) (fun hb => ?_)
  · refine wp_skip ?_
    refine et ?_
    obtain ⟨k_22, o, rfl, h, hN_22, hL_22, hw_22⟩ := for_more hF_22 hb
    refine ws ?_
    refine wp_block ?_
    refine ws ?_
    obtain ⟨v_25, e_26, h⟩ := bind_some h
    refine l_start ?_
    refine s_c hS (sg (sp_indexAddr sl22 (od rfl) (od rfl) e_26)) rfl fun a w hS hM => ?_
    refine s_c hS (sg (sp_load ty26 (od rfl))) rfl fun a w hS hM => ?_
    refine s_allocStore ze26 hS (od rfl) (fun k hk => by cases hk; rfl) rfl fun a w hS hM => ?_
    refine l_end ?_
    refine et ?_
    refine ws ?_
    obtain ⟨v_27, e_28, h⟩ := bind_some h
    obtain ⟨v_29, e_30, h⟩ := bind_some h
    refine st_reg mixed (by kernel_rfl) hS ?_
    refine cg (sp_load ty25 (od rfl)) ?_
    refine mv rfl ?_
    refine cg (sp_load ty26 (od rfl)) ?_
    refine cg (sp_call en35 (f35_ok e_28) ⟨od rfl, od rfl, od rfl, trivial⟩) ?_
    refine cg (sp_eql (od rfl) (odi)) ?_
    refine mv rfl ?_
    refine sc (sgT rfl fun hG => sp_move (od rfl)) ?_
    refine sc (sgT rfl fun hG => mk_fn55 (f := (fun x0 => M.f64 x0 v_25)) (κs := [isA (α := List Int) v_25]) ⟨fun _ _ _ _ h => h, trivial⟩ en64 ⟨od rfl, trivial⟩ (fun _ _ h => f64_ok h)) ?_
    refine sc (sgT rfl fun hG => sp_call en42 (f42_ok (guard_some e_30 hG)) ⟨odw rfl hG, odw rfl hG, trivial⟩) ?_
    refine cg (sp_pickAnd (od rfl) fun hg => odw rfl hg) ?_
    refine sn fun a w hS => ?_
    refine et ?_
    refine st_cond hS rfl (fun hb => ?_) (fun hb => ?_)
    · have h := ite_t hb h
      refine ws ?_
      refine st_reg mixed (by kernel_rfl) hS ?_
      refine cg (sp_assign (odb)) ?_
      refine sn fun a w hS => ?_
      refine et ?_
      refine wp_ret ?_
      refine exit_blockR ?_
      refine exit_thenR ?_
      cases h
      obtain rfl := hL_22 _ rfl
      have h := (elim_leave hr_24)
      refine exit_thenR ?_
      refine exit_blockR ?_
      refine exit_thenR ?_
      cases h
      exact st_ret hS (run_results1 Tryz.results14 a w) (hS.get rfl)
    have h := ite_f hb h
    refine wp_skip ?_
    refine exit_block ?_
    refine et ?_
    refine st_reg mixed (by kernel_rfl) hS ?_
    refine cg (sp_add (od rfl) (odi)) ?_
    refine mv rfl ?_
    refine sn fun a w hS => ?_
    cases h
    exact ⟨k_22, _, _, rfl, hN_22 _ rfl, hS.weak ⟨od rfl, od rfl, od rfl, od rfl, od rfl, od rfl, od rfl, od rfl, od rfl, od rfl, od (congrArg (fun z => some (isV (α := Int) z)) hw_22), trivial⟩⟩
  refine wp_exit ?_
  obtain rfl := for_done hF_22 hb
  have h := elim_again hr_24
  refine exit_thenE ?_
  refine exit_thenE ?_
  refine exit_here ?_
  refine et ?_
  refine ws ?_
  refine ws ?_
  obtain ⟨v_31, e_32, h⟩ := bind_some h
  refine st_reg mixed (by kernel_rfl) hS ?_
  refine mv rfl ?_
  refine mv rfl ?_
  refine cg (sp_call en44 (f44_ok e_32) ⟨od rfl, od rfl, trivial⟩) ?_
  refine sn fun a w hS => ?_
  refine et ?_
  refine st_cond hS rfl (fun hb => ?_) (fun hb => ?_)
  · have h := ite_t hb h
    refine ws ?_
    refine st_reg mixed (by kernel_rfl) hS ?_
    refine mv rfl ?_
    refine cg (sp_assign (od rfl)) ?_
    refine sn fun a w hS => ?_
    refine et ?_
    refine wp_ret ?_
    refine exit_thenR ?_
    cases h
    exact st_ret hS (run_results1 Tryz.results14 a w) (hS.get rfl)
  have h := ite_f hb h
  refine wp_skip ?_
  refine et ?_
  refine ws ?_
  refine ws ?_
  refine st_reg mixed (by kernel_rfl) hS ?_
  refine mv rfl ?_
  refine cg (sp_not (od rfl)) ?_
  refine sn fun a w hS => ?_
  refine et ?_
  refine st_cond hS rfl (fun hb => ?_) (fun hb => ?_)
  · have h := ite_t hb h
    refine ws ?_
    refine st_reg mixed (by kernel_rfl) hS ?_
    refine cg (sp_assign (odb)) ?_
    refine sn fun a w hS => ?_
    refine et ?_
    refine wp_ret ?_
    refine exit_thenR ?_
    cases h
    exact st_ret hS (run_results1 Tryz.results14 a w) (hS.get rfl)
  have h := ite_f hb h
  refine wp_skip ?_
  refine et ?_
  refine ws ?_
  obtain ⟨v_33, e_34, h⟩ := bind_some h
  refine st_reg mixed (by kernel_rfl) hS ?_
  refine cg (sp_load ty25 (od rfl)) ?_
  refine mv rfl ?_
  refine cg (sp_call en53 (f53_ok e_34) ⟨od rfl, od rfl, trivial⟩) ?_
  refine mv rfl ?_
  refine cg (sp_extract (od rfl) rfl) ?_
  refine cg (sp_extract (od rfl) rfl) ?_
  refine cg (sp_assign (od rfl)) ?_
  refine cg (sp_assign (od rfl)) ?_
  refine sn fun a w hS => ?_
  refine et ?_
  refine ws ?_
  obtain ⟨v_35, e_36, h⟩ := bind_some h
  refine st_reg mixed (by kernel_rfl) hS ?_
  refine cg (sp_load ty25 (od rfl)) ?_
  refine mv rfl ?_
  refine cg (sp_call en53 (f53_ok e_36) ⟨od rfl, od rfl, trivial⟩) ?_
  refine mv rfl ?_
  refine cg (sp_extract (od rfl) rfl) ?_
  refine cg (sp_extract (od rfl) rfl) ?_
  refine cg (sp_assign (od rfl)) ?_
  refine cg (sp_assign (od rfl)) ?_
  refine sn fun a w hS => ?_
  refine et ?_
  refine ws ?_
  refine ws ?_
  refine st_reg mixed (by kernel_rfl) hS ?_
  refine mv rfl ?_
  refine cg (sp_neq (od rfl) (odi)) ?_
  refine mv rfl ?_
  refine sc (sgF rfl fun hG => sp_move (od rfl)) ?_
  refine sc (sgF rfl fun hG => sp_neq (odw rfl hG) (odi)) ?_
  refine cg (sp_pickOr (od rfl) fun hg => odw rfl (not_t hg)) ?_
  refine mv rfl ?_
  refine sc (sgF rfl fun hG => sp_move (od rfl)) ?_
  refine sc (sgF rfl fun hG => sp_move (od rfl)) ?_
  refine sc (sgF rfl fun hG => sp_lss (odw rfl hG) (odw rfl hG)) ?_
  refine cg (sp_pickOr (od rfl) fun hg => odw rfl (not_t hg)) ?_
  refine sn fun a w hS => ?_
  refine et ?_
  refine st_cond hS rfl (fun hb => ?_) (fun hb => ?_)
  · have h := ite_t hb h
    refine ws ?_
    refine st_reg mixed (by kernel_rfl) hS ?_
    refine cg (sp_assign (odb)) ?_
    refine sn fun a w hS => ?_
    refine et ?_
    refine wp_ret ?_
    refine exit_thenR ?_
    cases h
    exact st_ret hS (run_results1 Tryz.results14 a w) (hS.get rfl)
  have h := ite_f hb h
  refine wp_skip ?_
  refine et ?_
  refine ws ?_
  obtain ⟨v_37, e_38, h⟩ := bind_some h
  obtain ⟨v_39, e_40, h⟩ := bind_some h
  refine st_reg mixed (by kernel_rfl) hS ?_
  refine mv rfl ?_
  refine mv rfl ?_
  refine cg (sp_call en44 (f44_ok e_38) ⟨od rfl, od rfl, trivial⟩) ?_
  refine mv rfl ?_
  refine sc (sgF rfl fun hG => sp_move (od rfl)) ?_
  refine sc (sgF rfl fun hG => sp_move (od rfl)) ?_
  refine sc (sgF rfl fun hG => sp_call en24 (f24_ok (guard_some e_40 hG)) ⟨odw rfl hG, odw rfl hG, trivial⟩) ?_
  refine cg (sp_pickOr (od rfl) fun hg => odw rfl (not_t hg)) ?_
  refine cg (sp_assign (od rfl)) ?_
  refine sn fun a w hS => ?_
  refine et ?_
  refine wp_ret ?_
  cases h
  exact st_ret hS (run_results1 Tryz.results14 a w) (hS.get rfl)

end Go.Proofs.YthogdhepjcomjaaGreatDoor
