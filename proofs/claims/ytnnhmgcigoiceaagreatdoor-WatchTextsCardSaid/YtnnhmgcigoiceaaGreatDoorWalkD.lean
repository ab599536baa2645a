/-
  What is proved: each Go function named here returns what its model tells, and changes nothing that was there; where the model tells something.
-/
import Derived.Test.YtnnhmgcigoiceaaGreatDoorWalkC
import Derived.Test.YtnnhmgcigoiceaaGreatDoorModelD
set_option linter.unusedVariables false
set_option maxRecDepth 100000
namespace Go.Proofs.YtnnhmgcigoiceaaGreatDoor
open Go Go.RowKit Go.Proofs.YtnnhmgcigoiceaaGreatDoor.Wh

theorem f112_ok {fuel : Nat} : ∀ {p0 : Int} {c0 : List (Int × Bool)} {c1 : Int} {c2 : S_api_Roster} {b0 : Nat} {r : (List (Int × Bool))}, M.f112 fuel p0 c0 c1 c2 = some r → CallF Tryz.prog 112 [Item.mp b0 c0] [isV p0, isA (α := Raw) (Raw.mk (.map (some b0))), isA (α := Int) c1, isA (α := S_api_Roster) c2, Pr.selfc 112 [isA (α := Raw) (Raw.mk (.map (some b0))), isA (α := Int) c1, isA (α := S_api_Roster) c2]] ⟨Unit, fun x_ => [Item.mp b0 r], fun _ => Pr.top⟩ := by
  induction fuel with
  | zero => intro _ _ _ _ _ r h; cases h
  | succ fuel ih =>
    intro p0 c0 c1 c2 b0 r h
    unfold M.f112 at h
    refine callF_of Tryz.func112 rfl Tryz.ntmps112 rfl fun F0 fr w0 w c0_ a hS => ?_
    refine ws ?_
    refine ws ?_
    refine l_start ?_
    refine s_c hS (sg (sp_loadRawA tyM131 (od rfl))) rfl fun a w hS hM => ?_
    refine s_c hS (sg (sp_move (od rfl))) rfl fun a w hS hM => ?_
    refine s_lookup (q := 0) mp131 hS rfl (od rfl) (od rfl) rfl fun a w hS hM => ?_
    refine s_c hS (sg (sp_move (od rfl))) rfl fun a w hS hM => ?_
    refine s_c hS (sgF rfl fun hG => sp_move (od rfl)) rfl fun a w hS hM => ?_
    refine s_c hS (sgF rfl fun hG => sp_load ty3 (od rfl)) rfl fun a w hS hM => ?_
    refine s_c hS (sgF rfl fun hG => sp_eql (odw rfl hG) (odw rfl hG)) rfl fun a w hS hM => ?_
    refine s_c hS (sg (sp_pickOr (od rfl) fun hg => odw rfl (not_t hg))) rfl fun a w hS hM => ?_
    refine l_end ?_
    refine et ?_
    refine st_cond hS rfl (fun hb => ?_) (fun hb => ?_)
    · have h := ite_t hb h
      refine wp_ret ?_
      refine exit_thenR ?_
      have hS : St _ F0 (Item.mp b0 c0 :: fr) _ w0 _ _ := hS
      cases h
      exact st_retF (ρ := ⟨Unit, fun x_ => [Item.mp b0 _], fun _ => Pr.top⟩) () hS (run_results0 Tryz.results112 a w) rfl trivial
    have h := ite_f hb h
    refine wp_skip ?_
    refine et ?_
    refine ws ?_
    refine l_start ?_
    refine s_c hS (sg (sp_loadRawA tyM131 (od rfl))) rfl fun a w hS hM => ?_
    refine s_c hS (sg (sp_move (od rfl))) rfl fun a w hS hM => ?_
    refine s_mapUpdate (q := 0) (Δ := [(0, isV (α := Int) p0), (1, isA (α := Raw) (Raw.mk (.map (some b0)))), (3, isA (α := S_api_Roster) c2), (4, Pr.selfc 112 [isA (α := Raw) (Raw.mk (.map (some b0))), isA (α := Int) c1, isA (α := S_api_Roster) c2]), (15, Pr.is (.map (some b0))), (16, isV (α := Int) p0), (1000000, Pr.seen c0_)]) mp131 hS rfl ⟨od rfl, od rfl, od rfl, od rfl, od rfl, od rfl, od rfl, trivial⟩ ⟨fun _ _ _ _ h => h, fun _ _ _ _ h => h, fun _ _ _ _ h => h, fun _ _ _ _ h => h, fun _ _ _ _ h => h, fun _ _ _ _ h => h, fun _ _ _ _ h => h, trivial⟩ (od rfl) (od rfl) (odb) fun w hS hM => ?_
    have hS : St _ F0 (Item.mp b0 (mset c0 p0 true) :: fr) _ w0 _ _ := hS
    refine l_end ?_
    refine et ?_
    refine ws ?_
    refine st_reg mixed (by kernel_rfl) hS ?_
    refine cg (sp_fieldAddr fd34_4 (od rfl)) ?_
    refine cg (sp_load ty32 (od rfl)) ?_
    refine cg (sp_len Tryz.underlying32 (od rfl)) ?_
    refine cg (sp_move (odi)) ?_
    refine sn fun a w hS => ?_
    refine et ?_
    refine wp_block ?_
    obtain ⟨o_4, e_5, hr_6⟩ := bind_some h
    refine c_loop (fun K a w => ∃ k i_1 s_3, K = k + 1 ∧ ForT _ _ _ o_4 k i_1 s_3 ∧ St 31 F0 (Item.mp b0 s_3 :: fr) [(0, isV (α := Int) p0), (1, isA (α := Raw) (Raw.mk (.map (some b0)))), (3, isA (α := S_api_Roster) c2), (4, Pr.selfc 112 [isA (α := Raw) (Raw.mk (.map (some b0))), isA (α := Int) c1, isA (α := S_api_Roster) c2]), (19, isV (α := Int) (c2.2.2.2.2.length : Int)), (20, isV (α := Int) i_1), (1000000, Pr.seen c0_)] w0 a w) ?_ ?_ ⟨_, _, _, rfl, fors_init e_5, hS.weak ⟨od rfl, od rfl, od rfl, od rfl, od rfl, od rfl, od rfl, trivial⟩⟩
    · rintro a w ⟨_, _, _, hk, _⟩; cases hk
    rintro K a w ⟨k_4, i_1, s_3, hk, hF_4, hS⟩
    obtain rfl := Nat.succ.inj hk
    refine ws ?_
    refine st_reg mixed (by kernel_rfl) hS ?_
    refine cg (sp_lss (od rfl) (od rfl)) ?_
    refine sn fun a w hS => ?_
    refine et ?_
    refine ws ?_
    refine st_cond hS rfl (fun hb => ?_) (fun hb => ?_)
    · refine wp_skip ?_
      refine et ?_
      obtain ⟨k_4, s', rfl, h, hF_4, hw_4⟩ := fors_more hF_4 hb
      refine ws ?_
      refine wp_block ?_
      refine ws ?_
      refine st_reg mixed (by kernel_rfl) hS ?_
      refine mv rfl ?_
      refine cg (sp_assign (od rfl)) ?_
      refine sn fun a w hS => ?_
      refine et ?_
      refine ws ?_
      obtain ⟨v_7, e_8, h⟩ := bind_some h
      refine st_reg mixed (by kernel_rfl) hS ?_
      refine cg (sp_load ty34 (od rfl)) ?_
      refine mv rfl ?_
      refine mv rfl ?_
      refine cg (sp_call en35 (f35_ok e_8) ⟨od rfl, od rfl, od rfl, trivial⟩) ?_
      refine sn fun a w hS => ?_
      refine et ?_
      obtain ⟨y_10, hj_9, h⟩ := bind_some h
      refine wp_mono (Q := fun e a w => e = Exit.normal ∧ St 31 F0 (Item.mp b0 y_10 :: fr) [(0, isV (α := Int) p0), (1, isA (α := Raw) (Raw.mk (.map (some b0)))), (3, isA (α := S_api_Roster) c2), (4, Pr.selfc 112 [isA (α := Raw) (Raw.mk (.map (some b0))), isA (α := Int) c1, isA (α := S_api_Roster) c2]), (19, isV (α := Int) (c2.2.2.2.2.length : Int)), (20, isV (α := Int) i_1), (1000000, Pr.seen c0_)] w0 a w) ?_ ?_
      · refine st_cond hS rfl (fun hb => ?_) (fun hb => ?_)
        · have h := ite_t hb hj_9
          obtain ⟨z_11, e_12, h⟩ := bind_some h
          refine l_start ?_
          refine s_c hS (sg (sp_loadSelf tyR100_w (od rfl))) rfl fun a w hS hM => ?_
          refine s_c hS (sg (sp_move (od rfl))) rfl fun a w hS hM => ?_
          have hS : St _ F0 (Item.mp b0 s_3 :: fr) _ w0 _ _ := hS
          refine s_callF (φs := [isV (α := Int) i_1]) (κs := [isA (α := Raw) (Raw.mk (.map (some b0))), isA (α := Int) c1, isA (α := S_api_Roster) c2, Pr.selfc 112 [isA (α := Raw) (Raw.mk (.map (some b0))), isA (α := Int) c1, isA (α := S_api_Roster) c2]]) (js1 := [Item.mp b0 s_3]) (fr := fr) (Δ := [(0, isV (α := Int) p0), (1, isA (α := Raw) (Raw.mk (.map (some b0)))), (3, isA (α := S_api_Roster) c2), (4, Pr.selfc 112 [isA (α := Raw) (Raw.mk (.map (some b0))), isA (α := Int) c1, isA (α := S_api_Roster) c2]), (19, isV (α := Int) (c2.2.2.2.2.length : Int)), (20, isV (α := Int) i_1), (27, Pr.clo 112 [isA (α := Raw) (Raw.mk (.map (some b0))), isA (α := Int) c1, isA (α := S_api_Roster) c2, Pr.selfc 112 [isA (α := Raw) (Raw.mk (.map (some b0))), isA (α := Int) c1, isA (α := S_api_Roster) c2]]), (28, isV (α := Int) i_1), (1000000, Pr.seen c0_)]) en112 (ih e_12) hS ⟨od rfl, od rfl, od rfl, od rfl, od rfl, od rfl, od rfl, od rfl, od rfl, trivial⟩ ⟨fun _ _ _ _ h => h, fun _ _ _ _ h => h, fun _ _ _ _ h => h, fun _ _ _ _ h => h, fun _ _ _ _ h => h, fun _ _ _ _ h => h, fun _ _ _ _ h => h, fun _ _ _ _ h => h, fun _ _ _ _ h => h, trivial⟩ (od rfl) ⟨od rfl, trivial⟩ rfl fun a w x_13 hS hM => ?_
          have hS : St _ F0 (Item.mp b0 z_11 :: fr) _ w0 _ _ := hS
          refine l_end ?_
          cases h
          exact ⟨rfl, hS.weak ⟨od rfl, od rfl, od rfl, od rfl, od rfl, od rfl, od rfl, trivial⟩⟩
        have h := ite_f hb hj_9
        refine wp_skip ?_
        cases h
        exact ⟨rfl, hS.weak ⟨od rfl, od rfl, od rfl, od rfl, od rfl, od rfl, od rfl, trivial⟩⟩
      rintro e a w ⟨rfl, hS⟩
      refine exit_block ?_
      refine et ?_
      refine st_reg mixed (by kernel_rfl) hS ?_
      refine cg (sp_add (od rfl) (odi)) ?_
      refine mv rfl ?_
      refine sn fun a w hS => ?_
      cases h
      exact ⟨k_4, _, _, rfl, hF_4, hS.weak ⟨od rfl, od rfl, od rfl, od rfl, od rfl, od (congrArg (fun z => some (isV (α := Int) z)) hw_4), od rfl, trivial⟩⟩
    refine wp_exit ?_
    obtain rfl := (fors_done hF_4 hb).symm
    have h := hr_6
    refine exit_thenE ?_
    refine exit_thenE ?_
    refine exit_here ?_
    have hS : St _ F0 (Item.mp b0 s_3 :: fr) _ w0 _ _ := hS
    cases h
    exact st_normalF (ρ := ⟨Unit, fun x_ => [Item.mp b0 _], fun _ => Pr.top⟩) () hS (run_results0 Tryz.results112 a w) rfl trivial

theorem f113_ok {p0 : Int} {c0 : S_api_Roster} {r : Bool} (h : M.f113 p0 c0 = some r) : CallOK Tryz.prog 113 [isV p0, isA c0] (isV r) := by
  unfold M.f113 at h
  refine callS_of Tryz.func113 rfl Tryz.ntmps113 rfl fun F0 w0 a hS => ?_
  refine ws ?_
  refine st_reg mixed (by kernel_rfl) hS ?_
  refine cg (sp_assign (odb)) ?_
  refine sn fun a w hS => ?_
  refine et ?_
  refine ws ?_
  obtain ⟨v_1, e_2, h⟩ := bind_some h
  obtain ⟨v_3, e_4, h⟩ := bind_some h
  refine st_reg mixed (by kernel_rfl) hS ?_
  refine cg (sp_load ty34 (od rfl)) ?_
  refine mv rfl ?_
  refine cg (sp_call en33 (f33_ok e_2) ⟨od rfl, od rfl, trivial⟩) ?_
  refine cg (sp_call en34 (f34_ok e_4) ⟨od rfl, trivial⟩) ?_
  refine cg (sp_assign (od rfl)) ?_
  refine sn fun a w hS => ?_
  refine et ?_
  refine wp_ret ?_
  cases h
  exact st_ret hS (run_results1 Tryz.results113 a w) (hS.get rfl)

theorem f114_ok {p0 : Int} {c0 : List (Int × Bool)} {b0 : Nat} {r : Bool} (h : M.f114 p0 c0 = some r) : CallF Tryz.prog 114 [Item.mp b0 c0] [isV p0, isA (α := Raw) (Raw.mk (.map (some b0)))] ⟨Unit, fun x_ => [Item.mp b0 c0], fun _ => isV (α := Bool) r⟩ := by
  unfold M.f114 at h
  refine callF_of Tryz.func114 rfl Tryz.ntmps114 rfl fun F0 fr w0 w c0_ a hS => ?_
  refine ws ?_
  refine st_reg mixed (by kernel_rfl) hS ?_
  refine cg (sp_assign (odb)) ?_
  refine sn fun a w hS => ?_
  refine et ?_
  refine ws ?_
  refine l_start ?_
  refine s_c hS (sg (sp_loadRawA tyM131 (od rfl))) rfl fun a w hS hM => ?_
  refine s_c hS (sg (sp_move (od rfl))) rfl fun a w hS hM => ?_
  refine s_lookup (q := 0) mp131 hS rfl (od rfl) (od rfl) rfl fun a w hS hM => ?_
  refine s_c hS (sg (sp_assign (od rfl))) rfl fun a w hS hM => ?_
  refine l_end ?_
  refine et ?_
  refine wp_ret ?_
  have hS : St _ F0 (Item.mp b0 c0 :: fr) _ w0 _ _ := hS
  cases h
  exact st_retF (ρ := ⟨Unit, fun x_ => [Item.mp b0 c0], fun _ => isV (α := Bool) (mget c0 p0)⟩) () hS (run_results1 Tryz.results114 a w) rfl (hS.at_.sat 3 _ rfl)

theorem f88_ok {fuel : Nat} {p0 : S_api_Roster} {p1 : Int} {p2 : Int} {r : (List Int)} (h : M.f88 fuel p0 p1 p2 = some r) : CallOK Tryz.prog 88 [isV p0, isV p1, isV p2] (isV r) := by
  unfold M.f88 at h
  refine callS_of Tryz.func88 rfl Tryz.ntmps88 rfl fun F0 w0 a hS => ?_
  refine ws ?_
  refine st_reg mixed (by kernel_rfl) hS ?_
  refine cg (sp_box (od rfl)) ?_
  refine cg (sp_box (od rfl)) ?_
  refine cg (sp_assign (odnil (α := Int))) ?_
  refine sn fun a w hS => ?_
  refine et ?_
  refine ws ?_
  refine l_start ?_
  refine s_makeMap hS rfl fun a w b_1 hS hM => ?_
  have hS : St _ F0 [Item.mp b_1 ([] : List (Int × Bool))] _ w0 _ _ := hS
  refine s_allocStore zeR131 hS (odRaw (od rfl) rfl) (fun k hk => by cases hk; rfl) rfl fun a w hS hM => ?_
  refine l_end ?_
  refine et ?_
  refine ws ?_
  refine l_start ?_
  refine s_alloc ziR100_w hS rfl fun a w b_2 hS hM => ?_
  have hS : St _ F0 [Item.mp b_1 ([] : List (Int × Bool)), Item.box (α := Raw) 100 b_2 (Raw.mk .nilFunc)] _ w0 _ _ := hS
  refine l_end ?_
  refine et ?_
  refine ws ?_
  refine l_start ?_
  refine s_c hS (sg (sp_makeSelf (κs := [isA (α := Raw) (Raw.mk (.map (some b_1))), isA (α := Int) p2, isA (α := S_api_Roster) p0]) (xs := [.tmp 7, .tmp 5, .tmp 3]) (p := .tmp 8) ⟨fun _ _ _ _ h => h, fun _ _ _ _ h => h, fun _ _ _ _ h => h, trivial⟩ ⟨od rfl, od rfl, od rfl, trivial⟩ (od rfl))) rfl fun a w hS hM => ?_
  refine s_storeSelf (k := 1) (Δ := [(1, isV (α := Int) p1), (3, isA (α := S_api_Roster) p0), (7, isA (α := Raw) (Raw.mk (.map (some b_1)))), (8, Pr.ptr b_2)]) tyR100_w hS rfl ⟨od rfl, od rfl, od rfl, od rfl, trivial⟩ ⟨fun _ _ _ _ h => h, fun _ _ _ _ h => h, fun _ _ _ _ h => h, fun _ _ _ _ h => h, trivial⟩ rfl (od rfl) fun w hS => ?_
  have hS : St _ F0 [Item.mp b_1 ([] : List (Int × Bool))] _ w0 _ _ := hS
  refine l_end ?_
  refine et ?_
  refine ws ?_
  refine ws ?_
  obtain ⟨v_3, e_4, h⟩ := bind_some h
  refine st_reg mixed (by kernel_rfl) hS ?_
  refine cg (sp_load ty34 (od rfl)) ?_
  refine mv rfl ?_
  refine cg (mk_fn87 (f := (fun x0 => M.f113 x0 p0)) (κs := [isA (α := S_api_Roster) p0]) ⟨fun _ _ _ _ h => h, trivial⟩ en113 ⟨od rfl, trivial⟩ (fun _ _ h => f113_ok h)) ?_
  refine cg (sp_call en62 (f62_ok e_4) ⟨od rfl, od rfl, od rfl, trivial⟩) ?_
  refine cg (sp_len Tryz.underlying39 (od rfl)) ?_
  refine cg (sp_move (odi)) ?_
  refine sn fun a w hS => ?_
  refine et ?_
  refine wp_block ?_
  obtain ⟨o_8, e_9, hr_10⟩ := bind_some h
  refine c_loop (fun K a w => ∃ k i_5 s_7, K = k + 1 ∧ ForT _ _ _ o_8 k i_5 s_7 ∧ St 30 F0 [Item.mp b_1 s_7] [(1, isV (α := Int) p1), (3, isA (α := S_api_Roster) p0), (7, isA (α := Raw) (Raw.mk (.map (some b_1)))), (8, Pr.selfc 112 [isA (α := Raw) (Raw.mk (.map (some b_1))), isA (α := Int) p2, isA (α := S_api_Roster) p0]), (16, isV (α := List Int) v_3), (17, isV (α := Int) (v_3.length : Int)), (18, isV (α := Int) i_5)] w0 a w) ?_ ?_ ⟨_, _, _, rfl, fors_init e_9, hS.weak ⟨od rfl, od rfl, od rfl, od rfl, od rfl, od rfl, od rfl, trivial⟩⟩
  · rintro a w ⟨_, _, _, hk, _⟩; cases hk
  rintro K a w ⟨k_8, i_5, s_7, hk, hF_8, hS⟩
  obtain rfl := Nat.succ.inj hk
  refine ws ?_
  refine st_reg mixed (by kernel_rfl) hS ?_
  refine cg (sp_lss (od rfl) (od rfl)) ?_
  refine sn fun a w hS => ?_
  refine et ?_
  refine ws ?_
  refine st_cond hS rfl (fun hb => ?_) (fun hb => ?_)
  · refine wp_skip ?_
    refine et ?_
    obtain ⟨k_8, s', rfl, h, hF_8, hw_8⟩ := fors_more hF_8 hb
    refine ws ?_
    refine wp_block ?_
    refine ws ?_
    obtain ⟨v_11, e_12, h⟩ := bind_some h
    refine st_reg mixed (by kernel_rfl) hS ?_
    refine cg (sp_indexAddr sl39 (od rfl) (od rfl) e_12) ?_
    refine cg (sp_load ty3 (od rfl)) ?_
    refine cg (sp_assign (od rfl)) ?_
    refine sn fun a w hS => ?_
    refine et ?_
    obtain ⟨z_13, e_14, h⟩ := bind_some h
    refine l_start ?_
    refine s_c hS (sg (sp_loadSelf tyR100_w (od rfl))) rfl fun a w hS hM => ?_
    refine s_c hS (sg (sp_move (od rfl))) rfl fun a w hS hM => ?_
    have hS : St _ F0 [Item.mp b_1 s_7] _ w0 _ _ := hS
    refine s_callF (φs := [isV (α := Int) v_11]) (κs := [isA (α := Raw) (Raw.mk (.map (some b_1))), isA (α := Int) p2, isA (α := S_api_Roster) p0, Pr.selfc 112 [isA (α := Raw) (Raw.mk (.map (some b_1))), isA (α := Int) p2, isA (α := S_api_Roster) p0]]) (js1 := [Item.mp b_1 s_7]) (fr := []) (Δ := [(1, isV (α := Int) p1), (3, isA (α := S_api_Roster) p0), (7, isA (α := Raw) (Raw.mk (.map (some b_1)))), (8, Pr.selfc 112 [isA (α := Raw) (Raw.mk (.map (some b_1))), isA (α := Int) p2, isA (α := S_api_Roster) p0]), (16, isV (α := List Int) v_3), (17, isV (α := Int) (v_3.length : Int)), (18, isV (α := Int) i_5), (22, Pr.clo 112 [isA (α := Raw) (Raw.mk (.map (some b_1))), isA (α := Int) p2, isA (α := S_api_Roster) p0, Pr.selfc 112 [isA (α := Raw) (Raw.mk (.map (some b_1))), isA (α := Int) p2, isA (α := S_api_Roster) p0]]), (23, isV (α := Int) v_11)]) en112 (f112_ok e_14) hS ⟨od rfl, od rfl, od rfl, od rfl, od rfl, od rfl, od rfl, od rfl, od rfl, trivial⟩ ⟨fun _ _ _ _ h => h, fun _ _ _ _ h => h, fun _ _ _ _ h => h, fun _ _ _ _ h => h, fun _ _ _ _ h => h, fun _ _ _ _ h => h, fun _ _ _ _ h => h, fun _ _ _ _ h => h, fun _ _ _ _ h => h, trivial⟩ (od rfl) ⟨od rfl, trivial⟩ rfl fun a w x_15 hS hM => ?_
    have hS : St _ F0 [Item.mp b_1 z_13] _ w0 _ _ := hS
    refine l_end ?_
    refine exit_block ?_
    refine et ?_
    refine st_reg mixed (by kernel_rfl) hS ?_
    refine cg (sp_add (od rfl) (odi)) ?_
    refine mv rfl ?_
    refine sn fun a w hS => ?_
    cases h
    exact ⟨k_8, _, _, rfl, hF_8, hS.weak ⟨od rfl, od rfl, od rfl, od rfl, od rfl, od rfl, od (congrArg (fun z => some (isV (α := Int) z)) hw_8), trivial⟩⟩
  refine wp_exit ?_
  obtain rfl := (fors_done hF_8 hb).symm
  have h := hr_10
  refine exit_thenE ?_
  refine exit_thenE ?_
  refine exit_here ?_
  refine et ?_
  refine ws ?_
  obtain ⟨z_16, e_17, h⟩ := bind_some h
  refine l_start ?_
  refine s_c hS (sg (sp_load ty34 (od rfl))) rfl fun a w hS hM => ?_
  refine s_c hS (sg (sp_move (od rfl))) rfl fun a w hS hM => ?_
  refine s_c hS (sg (sp_makeClo (κs := [isA (α := Raw) (Raw.mk (.map (some b_1)))]) ⟨fun _ _ _ _ h => h, trivial⟩ ⟨od rfl, trivial⟩)) rfl fun a w hS hM => ?_
  have hS : St _ F0 [Item.mp b_1 s_7] _ w0 _ _ := hS
  refine s_callFN (xs := [.tmp 26, .tmp 27, .tmp 28]) (φs := [isV (α := S_api_Roster) p0, isV (α := Int) p1, Pr.clo 114 [isA (α := Raw) (Raw.mk (.map (some b_1)))]]) (js1 := [Item.mp b_1 s_7]) (fr := []) (Δ := [(26, isV (α := S_api_Roster) p0), (27, isV (α := Int) p1), (28, Pr.clo 114 [isA (α := Raw) (Raw.mk (.map (some b_1)))])]) (fun q e => by cases e; decide) en62 (f62r_ok (J_ := [Item.mp b_1 s_7]) ⟨en114, fun h => f114_ok h⟩ e_17) hS ⟨od rfl, od rfl, od rfl, trivial⟩ ⟨fun _ _ _ _ h => h, fun _ _ _ _ h => h, fun _ _ _ _ h => h, trivial⟩ ⟨od rfl, od rfl, od rfl, trivial⟩ fun a w x_18 hS hM => ?_
  have hS : St _ F0 [Item.mp b_1 s_7] _ w0 _ _ := hS
  refine s_c hS (sg (sp_assign (od rfl))) rfl fun a w hS hM => ?_
  refine l_end ?_
  refine et ?_
  refine wp_ret ?_
  cases h
  exact st_ret hS (run_results1 Tryz.results88 a w) (hS.get rfl)

theorem f89_ok {p0 : Int} {c0 : S_api_Roster} {r : Bool} (h : M.f89 p0 c0 = some r) : CallOK Tryz.prog 89 [isV p0, isA c0] (isV r) := by
  unfold M.f89 at h
  refine callS_of Tryz.func89 rfl Tryz.ntmps89 rfl fun F0 w0 a hS => ?_
  refine ws ?_
  refine st_reg mixed (by kernel_rfl) hS ?_
  refine cg (sp_assign (odb)) ?_
  refine sn fun a w hS => ?_
  refine et ?_
  refine ws ?_
  obtain ⟨v_1, e_2, h⟩ := bind_some h
  obtain ⟨v_3, e_4, h⟩ := bind_some h
  refine st_reg mixed (by kernel_rfl) hS ?_
  refine cg (sp_load ty34 (od rfl)) ?_
  refine mv rfl ?_
  refine cg (sp_call en36 (f36_ok e_2) ⟨od rfl, od rfl, trivial⟩) ?_
  refine cg (sp_call en34 (f34_ok e_4) ⟨od rfl, trivial⟩) ?_
  refine cg (sp_assign (od rfl)) ?_
  refine sn fun a w hS => ?_
  refine et ?_
  refine wp_ret ?_
  cases h
  exact st_ret hS (run_results1 Tryz.results89 a w) (hS.get rfl)

theorem f47_ok {p0 : S_api_Roster} {p1 : List Int} {r : Bool} (h : M.f47 p0 p1 = some r) : CallOK Tryz.prog 47 [isV p0, isV p1] (isV r) := by
  unfold M.f47 at h
  refine callS_of Tryz.func47 rfl Tryz.ntmps47 rfl fun F0 w0 a hS => ?_
  refine ws ?_
  refine st_reg mixed (by kernel_rfl) hS ?_
  refine cg (sp_box (od rfl)) ?_
  refine cg (sp_assign (odb)) ?_
  refine sn fun a w hS => ?_
  refine et ?_
  refine ws ?_
  obtain ⟨v_1, e_2, h⟩ := bind_some h
  refine st_reg mixed (by kernel_rfl) hS ?_
  refine mv rfl ?_
  refine cg (mk_fn87 (f := (fun x0 => M.f89 x0 p0)) (κs := [isA (α := S_api_Roster) p0]) ⟨fun _ _ _ _ h => h, trivial⟩ en89 ⟨od rfl, trivial⟩ (fun _ _ h => f89_ok h)) ?_
  refine cg (sp_call en55 (f55_ok e_2) ⟨od rfl, od rfl, trivial⟩) ?_
  refine cg (sp_assign (od rfl)) ?_
  refine sn fun a w hS => ?_
  refine et ?_
  refine wp_ret ?_
  cases h
  exact st_ret hS (run_results1 Tryz.results47 a w) (hS.get rfl)

theorem f57_ok {p0 : List Int} {r : Bool} (h : M.f57 p0 = some r) : CallOK Tryz.prog 57 [isV p0] (isV r) := by
  unfold M.f57 at h
  refine callS_of Tryz.func57 rfl Tryz.ntmps57 rfl fun F0 w0 a hS => ?_
  refine ws ?_
  refine st_reg mixed (by kernel_rfl) hS ?_
  refine cg (sp_assign (odb)) ?_
  refine sn fun a w hS => ?_
  refine et ?_
  refine ws ?_
  refine ws ?_
  refine st_reg mixed (by kernel_rfl) hS ?_
  refine mv rfl ?_
  refine cg (sp_len Tryz.underlying39 (od rfl)) ?_
  refine cg (sp_move (odi)) ?_
  refine sn fun a w hS => ?_
  refine et ?_
  refine wp_block ?_
  obtain ⟨o_4, e_5, hr_6⟩ := bind_some h
  refine c_loop (fun K a w => ∃ k i_1 s_3, K = k + 1 ∧ ForI _ _ _ o_4 k i_1 s_3 ∧ St 18 F0 [] [(0, isV (α := List Int) p0), (5, isV (α := List Int) p0), (6, isV (α := Int) (p0.length : Int)), (7, isV (α := Int) i_1)] w0 a w) ?_ ?_ ⟨_, _, _, rfl, for_init e_5, hS.weak ⟨od rfl, od rfl, od rfl, od rfl, trivial⟩⟩
  · rintro a w ⟨_, _, _, hk, _⟩; cases hk
  rintro K a w ⟨k_4, i_1, s_3, hk, hF_4, hS⟩
  obtain rfl := Nat.succ.inj hk
  refine ws ?_
  refine st_reg mixed (by kernel_rfl) hS ?_
  refine cg (sp_lss (od rfl) (od rfl)) ?_
  refine sn fun a w hS => ?_
  refine et ?_
  refine ws ?_
  refine st_cond hS rfl (fun hb => ?_) (fun hb => ?_)
  · refine wp_skip ?_
    refine et ?_
    obtain ⟨k_4, o, rfl, h, hN_4, hL_4, hw_4⟩ := for_more hF_4 hb
    refine ws ?_
    refine wp_block ?_
    refine ws ?_
    obtain ⟨v_7, e_8, h⟩ := bind_some h
    refine st_reg mixed (by kernel_rfl) hS ?_
    refine mv rfl ?_
    refine cg (sp_indexAddr sl39 (od rfl) (od rfl) e_8) ?_
    refine cg (sp_load ty3 (od rfl)) ?_
    refine cg (sp_assign (od rfl)) ?_
    refine cg (sp_assign (od rfl)) ?_
    refine sn fun a w hS => ?_
    refine et ?_
    refine ws ?_
    obtain ⟨z_9, e_10, h⟩ := bind_some h
    obtain ⟨v_11, e_12, h⟩ := bind_some h
    refine st_reg mixed (by kernel_rfl) hS ?_
    refine mv rfl ?_
    refine mv rfl ?_
    refine cg (sp_sliceTo sl39 (od rfl) (od rfl) e_10) ?_
    refine mv rfl ?_
    refine cg (sp_call en61 (f61_ok e_12) ⟨od rfl, od rfl, trivial⟩) ?_
    refine sn fun a w hS => ?_
    refine et ?_
    refine st_cond hS rfl (fun hb => ?_) (fun hb => ?_)
    · have h := ite_t hb h
      refine ws ?_
      refine st_reg mixed (by kernel_rfl) hS ?_
      refine cg (sp_assign (odb)) ?_
      refine sn fun a w hS => ?_
      refine et ?_
      refine wp_ret ?_
      refine exit_blockR ?_
      refine exit_thenR ?_
      cases h
      obtain rfl := hL_4 _ rfl
      have h := (elim_leave hr_6)
      refine exit_thenR ?_
      refine exit_blockR ?_
      refine exit_thenR ?_
      cases h
      exact st_ret hS (run_results1 Tryz.results57 a w) (hS.get rfl)
    have h := ite_f hb h
    refine wp_skip ?_
    refine exit_block ?_
    refine et ?_
    refine st_reg mixed (by kernel_rfl) hS ?_
    refine cg (sp_add (od rfl) (odi)) ?_
    refine mv rfl ?_
    refine sn fun a w hS => ?_
    cases h
    exact ⟨k_4, _, _, rfl, hN_4 _ rfl, hS.weak ⟨od rfl, od rfl, od rfl, od (congrArg (fun z => some (isV (α := Int) z)) hw_4), trivial⟩⟩
  refine wp_exit ?_
  obtain rfl := for_done hF_4 hb
  have h := elim_again hr_6
  refine exit_thenE ?_
  refine exit_thenE ?_
  refine exit_here ?_
  refine et ?_
  refine ws ?_
  refine st_reg mixed (by kernel_rfl) hS ?_
  refine cg (sp_assign (odb)) ?_
  refine sn fun a w hS => ?_
  refine et ?_
  refine wp_ret ?_
  cases h
  exact st_ret hS (run_results1 Tryz.results57 a w) (hS.get rfl)

theorem f90_ok {p0 : Int} {c0 : S_api_Roster} {c1 : Int} {r : Bool} (h : M.f90 p0 c0 c1 = some r) : CallOK Tryz.prog 90 [isV p0, isA c0, isA c1] (isV r) := by
  unfold M.f90 at h
  refine callS_of Tryz.func90 rfl Tryz.ntmps90 rfl fun F0 w0 a hS => ?_
  refine ws ?_
  refine st_reg mixed (by kernel_rfl) hS ?_
  refine cg (sp_assign (odb)) ?_
  refine sn fun a w hS => ?_
  refine et ?_
  refine ws ?_
  obtain ⟨v_1, e_2, h⟩ := bind_some h
  refine st_reg mixed (by kernel_rfl) hS ?_
  refine cg (sp_fieldAddr fd34_4 (od rfl)) ?_
  refine cg (sp_load ty32 (od rfl)) ?_
  refine mv rfl ?_
  refine cg (sp_indexAddr sl32 (od rfl) (od rfl) e_2) ?_
  refine cg (sp_fieldAddr fd23_0 (od rfl)) ?_
  refine cg (sp_load ty3 (od rfl)) ?_
  refine cg (sp_load ty3 (od rfl)) ?_
  refine cg (sp_neq (od rfl) (od rfl)) ?_
  refine cg (sp_assign (od rfl)) ?_
  refine sn fun a w hS => ?_
  refine et ?_
  refine wp_ret ?_
  cases h
  exact st_ret hS (run_results1 Tryz.results90 a w) (hS.get rfl)

theorem f48_ok {p0 : S_api_Roster} {p1 : Int} {p2 : List Int} {r : Int} (h : M.f48 p0 p1 p2 = some r) : CallOK Tryz.prog 48 [isV p0, isV p1, isV p2] (isV r) := by
  unfold M.f48 at h
  refine callS_of Tryz.func48 rfl Tryz.ntmps48 rfl fun F0 w0 a hS => ?_
  refine ws ?_
  refine st_reg mixed (by kernel_rfl) hS ?_
  refine cg (sp_box (od rfl)) ?_
  refine cg (sp_box (od rfl)) ?_
  refine cg (sp_assign (odi)) ?_
  refine sn fun a w hS => ?_
  refine et ?_
  refine ws ?_
  refine ws ?_
  obtain ⟨v_1, e_2, h⟩ := bind_some h
  refine st_reg mixed (by kernel_rfl) hS ?_
  refine cg (sp_load ty34 (od rfl)) ?_
  refine cg (sp_load ty3 (od rfl)) ?_
  refine cg (sp_call en40 (f40_ok e_2) ⟨od rfl, od rfl, trivial⟩) ?_
  refine cg (sp_assign (od rfl)) ?_
  refine sn fun a w hS => ?_
  refine et ?_
  refine ws ?_
  refine st_reg mixed (by kernel_rfl) hS ?_
  refine mv rfl ?_
  refine cg (sp_neq (od rfl) (odi)) ?_
  refine sn fun a w hS => ?_
  refine et ?_
  refine st_cond hS rfl (fun hb => ?_) (fun hb => ?_)
  · have h := ite_t hb h
    refine ws ?_
    refine st_reg mixed (by kernel_rfl) hS ?_
    refine mv rfl ?_
    refine cg (sp_assign (od rfl)) ?_
    refine sn fun a w hS => ?_
    refine et ?_
    refine wp_ret ?_
    refine exit_thenR ?_
    cases h
    exact st_ret hS (run_results1 Tryz.results48 a w) (hS.get rfl)
  have h := ite_f hb h
  refine wp_skip ?_
  refine et ?_
  refine ws ?_
  refine ws ?_
  obtain ⟨v_3, e_4, h⟩ := bind_some h
  obtain ⟨v_5, e_6, h⟩ := bind_some h
  obtain ⟨v_7, e_8, h⟩ := bind_some h
  refine st_reg mixed (by kernel_rfl) hS ?_
  refine cg (sp_load ty34 (od rfl)) ?_
  refine mv rfl ?_
  refine cg (sp_call en32 (f32_ok e_4) ⟨od rfl, od rfl, trivial⟩) ?_
  refine cg (sp_neq (od rfl) (odi)) ?_
  refine mv rfl ?_
  refine sc (sgF rfl fun hG => sp_move (od rfl)) ?_
  refine sc (sgF rfl fun hG => sp_call en57 (f57_ok (guard_some e_6 hG)) ⟨odw rfl hG, trivial⟩) ?_
  refine sc (sgF rfl fun hG => sp_not (odw rfl hG)) ?_
  refine cg (sp_pickOr (od rfl) fun hg => odw rfl (not_t hg)) ?_
  refine mv rfl ?_
  refine sc (sgF rfl fun hG => sp_move (od rfl)) ?_
  refine sc (sgF rfl fun hG => mk_fn87 (f := (fun x0 => M.f90 x0 p0 p1)) (κs := [isA (α := S_api_Roster) p0, isA (α := Int) p1]) ⟨fun _ _ _ _ h => h, fun _ _ _ _ h => h, trivial⟩ en90 ⟨od rfl, od rfl, trivial⟩ (fun _ _ h => f90_ok h)) ?_
  refine sc (sgF rfl fun hG => sp_call en55 (f55_ok (guard_some e_8 hG)) ⟨odw rfl hG, odw rfl hG, trivial⟩) ?_
  refine cg (sp_pickOr (od rfl) fun hg => odw rfl (not_t hg)) ?_
  refine sn fun a w hS => ?_
  refine et ?_
  refine st_cond hS rfl (fun hb => ?_) (fun hb => ?_)
  · have h := ite_t hb h
    refine ws ?_
    refine st_reg mixed (by kernel_rfl) hS ?_
    refine cg (sp_assign (odi)) ?_
    refine sn fun a w hS => ?_
    refine et ?_
    refine wp_ret ?_
    refine exit_thenR ?_
    cases h
    exact st_ret hS (run_results1 Tryz.results48 a w) (hS.get rfl)
  have h := ite_f hb h
  refine wp_skip ?_
  refine et ?_
  refine ws ?_
  refine ws ?_
  refine st_reg mixed (by kernel_rfl) hS ?_
  refine mv rfl ?_
  refine cg (sp_len Tryz.underlying39 (od rfl)) ?_
  refine cg (sp_gtr (od rfl) (odi)) ?_
  refine sn fun a w hS => ?_
  refine et ?_
  refine st_cond hS rfl (fun hb => ?_) (fun hb => ?_)
  · have h := ite_t hb h
    refine ws ?_
    refine st_reg mixed (by kernel_rfl) hS ?_
    refine cg (sp_assign (odi)) ?_
    refine sn fun a w hS => ?_
    refine et ?_
    refine wp_ret ?_
    refine exit_thenR ?_
    cases h
    exact st_ret hS (run_results1 Tryz.results48 a w) (hS.get rfl)
  have h := ite_f hb h
  refine wp_skip ?_
  refine et ?_
  refine ws ?_
  refine st_reg mixed (by kernel_rfl) hS ?_
  refine cg (sp_assign (odi)) ?_
  refine sn fun a w hS => ?_
  refine et ?_
  refine wp_ret ?_
  cases h
  exact st_ret hS (run_results1 Tryz.results48 a w) (hS.get rfl)

theorem f94_ok {p0 : Int} {c0 : S_api_Roster} {c1 : Int} {r : Bool} (h : M.f94 p0 c0 c1 = some r) : CallOK Tryz.prog 94 [isV p0, isA c0, isA c1] (isV r) := by
  unfold M.f94 at h
  refine callS_of Tryz.func94 rfl Tryz.ntmps94 rfl fun F0 w0 a hS => ?_
  refine ws ?_
  refine st_reg mixed (by kernel_rfl) hS ?_
  refine cg (sp_assign (odb)) ?_
  refine sn fun a w hS => ?_
  refine et ?_
  refine ws ?_
  obtain ⟨v_1, e_2, h⟩ := bind_some h
  refine st_reg mixed (by kernel_rfl) hS ?_
  refine cg (sp_fieldAddr fd34_4 (od rfl)) ?_
  refine cg (sp_load ty32 (od rfl)) ?_
  refine mv rfl ?_
  refine cg (sp_indexAddr sl32 (od rfl) (od rfl) e_2) ?_
  refine cg (sp_fieldAddr fd23_0 (od rfl)) ?_
  refine cg (sp_load ty3 (od rfl)) ?_
  refine cg (sp_load ty3 (od rfl)) ?_
  refine cg (sp_neq (od rfl) (od rfl)) ?_
  refine cg (sp_assign (od rfl)) ?_
  refine sn fun a w hS => ?_
  refine et ?_
  refine wp_ret ?_
  cases h
  exact st_ret hS (run_results1 Tryz.results94 a w) (hS.get rfl)

theorem f95_ok {p0 : S_watch_lag} {c0 : List S_watch_lag} {b0 : Nat} {v0 : Value} {r : (List S_watch_lag)} (h : M.f95 p0 c0 = some r) : CallF Tryz.prog 95 [Item.box (α := Raw) 115 b0 (Raw.mk v0), Item.sl (α := S_watch_lag) 66 v0 c0] [isV p0, Pr.ptr b0] ⟨Value, fun x_ => [Item.box (α := Raw) 115 b0 (Raw.mk x_), Item.sl (α := S_watch_lag) 66 x_ r], fun _ => Pr.top⟩ := by
  unfold M.f95 at h
  refine callF_of Tryz.func95 rfl Tryz.ntmps95 rfl fun F0 fr w0 w c0_ a hS => ?_
  refine ws ?_
  refine st_reg mixed (by kernel_rfl) hS ?_
  refine cg (sp_box (od rfl)) ?_
  refine sn fun a w hS => ?_
  refine et ?_
  obtain ⟨z_1, e_2, h⟩ := bind_some h
  refine l_start ?_
  have hS := st_boxR 0 1 1 hS rfl rfl rfl
  refine s_c hS (sg (sp_loadBoxR tyR115_w (od rfl))) rfl fun a w hS hM => ?_
  refine s_c hS (sg (sp_load ty66 (od rfl))) rfl fun a w hS hM => ?_
  refine s_c hS (sg (sp_buildSlice [.tmp 4] ([p0] : List S_watch_lag) sl115 ze66 rfl rfl rfl rfl ⟨od rfl, trivial⟩)) rfl fun a w hS hM => ?_
  refine s_append (k := 1) (Δ := [(1, Pr.ptr b0), (3, Pr.is v0), (5, isV (α := List S_watch_lag) ([p0] : List S_watch_lag)), (1000000, Pr.seen c0_)]) sl115 ze66 hS rfl ⟨odBxR rfl, odOS rfl, od rfl, od rfl, trivial⟩ ⟨fun _ _ _ _ h => h, fun _ _ _ _ h => h, fun _ _ _ _ h => h, fun _ _ _ _ h => h, trivial⟩ (od rfl) (od rfl) e_2 rfl fun a w u_3 hS hM => ?_
  have hS : St _ F0 (Item.box (α := Raw) 115 b0 (Raw.mk v0) :: Item.sl (α := S_watch_lag) 66 u_3 z_1 :: fr) _ w0 _ _ := hS
  refine s_storeB (k := 0) (Δ := [(1, Pr.ptr b0), (6, Pr.is u_3), (1000000, Pr.seen c0_)]) tyR115_w hS rfl ⟨od rfl, od rfl, od rfl, trivial⟩ ⟨fun _ _ _ _ h => h, fun _ _ _ _ h => h, fun _ _ _ _ h => h, trivial⟩ rfl (odRaw (od rfl) (hS.one (k := 1) rfl)) fun w hS hM => ?_
  have hS : St _ F0 (Item.box (α := Raw) 115 b0 (Raw.mk u_3) :: Item.sl (α := S_watch_lag) 66 u_3 z_1 :: fr) _ w0 _ _ := hS
  refine l_end ?_
  have hS := st_front 1 hS rfl
  have hS := st_front 1 hS rfl
  have hS : St _ F0 (Item.box (α := Raw) 115 b0 (Raw.mk u_3) :: Item.sl (α := S_watch_lag) 66 u_3 z_1 :: fr) _ w0 _ _ := hS
  cases h
  exact st_normalF (ρ := ⟨Value, fun x_ => [Item.box (α := Raw) 115 b0 (Raw.mk x_), Item.sl (α := S_watch_lag) 66 x_ _], fun _ => Pr.top⟩) u_3 hS (run_results0 Tryz.results95 a w) rfl trivial

theorem f52_ok {fuel : Nat} {σ X : Type} {J_ : σ → X → List Wh.Item} {g_ : FuncId} {κs_ : List Pr} {p0 : S_api_Roster} {p1 : List Int} {p2 : σ → S_watch_lag → Option σ} {s0 : σ} {x0 : X} {r : σ} (hE : EffP (α := S_watch_lag) Tryz.prog g_ κs_ J_ p2) (h : M.f52 fuel p0 p1 p2 s0 = some r) : CallF Tryz.prog 52 (J_ s0 x0) [isV (α := S_api_Roster) p0, isV (α := List Int) p1, Pr.clo g_ κs_] ⟨X, fun x_ => J_ r x_, fun _ => Pr.top⟩ := by
  unfold M.f52 at h
  refine callF_of Tryz.func52 rfl Tryz.ntmps52 rfl fun F0 fr w0 w c0_ a hS => ?_
  refine ws ?_
  refine st_reg mixed (by kernel_rfl) hS ?_
  refine cg (sp_box (od rfl)) ?_
  refine sn fun a w hS => ?_
  refine et ?_
  refine ws ?_
  obtain ⟨v_1, e_2, h⟩ := bind_some h
  obtain ⟨v_3, e_4, h⟩ := bind_some h
  obtain ⟨z_5, e_6, h⟩ := bind_some h
  refine st_float mixed [0, 0, 0, 0, 0, 0, 2] (by kernel_rfl) (by kernel_rfl) hS ?_
  refine sfA (sg (sp_move (od rfl))) ?_
  refine sfA (sg (sp_load ty34 (od rfl))) ?_
  refine sfA (sg (sp_move (od rfl))) ?_
  refine sfA (sg (sp_indexAddr sl39 (od rfl) (odi) e_2)) ?_
  refine sfA (sg (sp_load ty3 (od rfl))) ?_
  refine sfA (sg (sp_call en33 (f33_ok e_4) ⟨od rfl, od rfl, trivial⟩)) ?_
  refine sfT ?_
  refine sfN fun c a w hS hC => ?_
  refine ls ?_
  refine s_callFV (xs := [.tmp 12]) (φs := [isV (α := S_watch_lag) v_3]) (κs := κs_) (js1 := J_ s0 x0) (fr := fr) (Δ := [(1, isV (α := List Int) p1), (2, Pr.clo g_ κs_), (3, isA (α := S_api_Roster) p0), (7, Pr.clo g_ κs_), (12, isV (α := S_watch_lag) v_3), (1000000, Pr.seen c0_)]) (fun q e => by cases e; decide) hE.en (hE.ok e_6) hS ⟨od rfl, od rfl, od rfl, od rfl, od rfl, od rfl, trivial⟩ ⟨fun _ _ _ _ h => h, fun _ _ _ _ h => h, fun _ _ _ _ h => h, fun _ _ _ _ h => h, fun _ _ _ _ h => h, fun _ _ _ _ h => h, trivial⟩ (od rfl) ⟨od rfl, trivial⟩ fun a w x_7 hS hM => ?_
  have hS : St _ F0 (J_ z_5 x_7 ++ fr) _ w0 _ _ := hS
  have hC := Mem.le_trans hC hM
  refine s_next hC ?_
  refine s_done ?_
  refine et ?_
  refine ws ?_
  refine ws ?_
  refine st_reg mixed (by kernel_rfl) hS ?_
  refine cg (sp_assign (odi)) ?_
  refine sn fun a w hS => ?_
  refine et ?_
  refine wp_block ?_
  obtain ⟨o_9, e_10, hr_11⟩ := bind_some h
  refine c_loop (fun K a w => ∃ s_8 : Int × σ, ∃ u_12 : X, loopM _ K s_8 = some o_9 ∧ St 43 F0 (J_ s_8.2 u_12 ++ fr) [(1, isV (α := List Int) p1), (2, Pr.clo g_ κs_), (3, isA (α := S_api_Roster) p0), (6, isV (α := Int) s_8.1), (1000000, Pr.seen c0_)] w0 a w) ?_ ?_ ⟨_, x_7, e_10, hS.weak ⟨od rfl, od rfl, od rfl, od rfl, od rfl, trivial⟩⟩
  · rintro a w ⟨_, _, hk, _⟩; cases hk
  rintro K a w ⟨s_8, u_12, hF_9, hS⟩
  obtain ⟨o, h, hN_9, hL_9⟩ := loop_more hF_9
  refine ws ?_
  refine ws ?_
  refine st_reg mixed (by kernel_rfl) hS ?_
  refine mv rfl ?_
  refine mv rfl ?_
  refine cg (sp_len Tryz.underlying39 (od rfl)) ?_
  refine cg (sp_lss (od rfl) (od rfl)) ?_
  refine sn fun a w hS => ?_
  refine et ?_
  refine st_cond hS rfl (fun hb => ?_) (fun hb => ?_)
  · have h := ite_t hb h
    refine wp_skip ?_
    refine et ?_
    refine ws ?_
    refine wp_block ?_
    obtain ⟨v_13, e_14, h⟩ := bind_some h
    obtain ⟨v_15, e_16, h⟩ := bind_some h
    obtain ⟨v_17, e_18, h⟩ := bind_some h
    obtain ⟨z_19, e_20, h⟩ := bind_some h
    refine st_float mixed [0, 0, 0, 0, 0, 0, 0, 0, 0, 0, 0, 0, 2] (by kernel_rfl) (by kernel_rfl) hS ?_
    refine sfA (sg (sp_move (od rfl))) ?_
    refine sfA (sg (sp_load ty34 (od rfl))) ?_
    refine sfA (sg (sp_move (od rfl))) ?_
    refine sfA (sg (sp_move (od rfl))) ?_
    refine sfA (sg (sp_sub (od rfl) (odi))) ?_
    refine sfA (sg (sp_indexAddr sl39 (od rfl) (od rfl) e_14)) ?_
    refine sfA (sg (sp_load ty3 (od rfl))) ?_
    refine sfA (sg (sp_move (od rfl))) ?_
    refine sfA (sg (sp_move (od rfl))) ?_
    refine sfA (sg (sp_indexAddr sl39 (od rfl) (od rfl) e_16)) ?_
    refine sfA (sg (sp_load ty3 (od rfl))) ?_
    refine sfA (sg (sp_call en79 (f79_ok e_18) ⟨od rfl, od rfl, od rfl, trivial⟩)) ?_
    refine sfT ?_
    refine sfN fun c a w hS hC => ?_
    refine ls ?_
    refine s_callFV (xs := [.tmp 31]) (φs := [isV (α := S_watch_lag) v_17]) (κs := κs_) (js1 := J_ s_8.2 u_12) (fr := fr) (Δ := [(1, isV (α := List Int) p1), (2, Pr.clo g_ κs_), (3, isA (α := S_api_Roster) p0), (6, isV (α := Int) s_8.1), (20, Pr.clo g_ κs_), (31, isV (α := S_watch_lag) v_17), (1000000, Pr.seen c0_)]) (fun q e => by cases e; decide) hE.en (hE.ok e_20) hS ⟨od rfl, od rfl, od rfl, od rfl, od rfl, od rfl, od rfl, trivial⟩ ⟨fun _ _ _ _ h => h, fun _ _ _ _ h => h, fun _ _ _ _ h => h, fun _ _ _ _ h => h, fun _ _ _ _ h => h, fun _ _ _ _ h => h, fun _ _ _ _ h => h, trivial⟩ (od rfl) ⟨od rfl, trivial⟩ fun a w x_21 hS hM => ?_
    have hS : St _ F0 (J_ z_19 x_21 ++ fr) _ w0 _ _ := hS
    have hC := Mem.le_trans hC hM
    refine s_next hC ?_
    refine s_done ?_
    refine exit_block ?_
    refine et ?_
    refine st_reg mixed (by kernel_rfl) hS ?_
    refine mv rfl ?_
    refine cg (sp_add (od rfl) (odi)) ?_
    refine cg (sp_assign (od rfl)) ?_
    refine sn fun a w hS => ?_
    cases h
    exact ⟨_, x_21, hN_9 _ rfl, hS.weak ⟨od rfl, od rfl, od rfl, od rfl, od rfl, trivial⟩⟩
  have h := ite_f hb h
  refine wp_exit ?_
  refine exit_thenE ?_
  cases h
  obtain rfl := hL_9 _ rfl
  have h := hr_11
  refine exit_thenE ?_
  refine exit_here ?_
  refine et ?_
  obtain ⟨v_22, e_23, h⟩ := bind_some h
  obtain ⟨v_24, e_25, h⟩ := bind_some h
  obtain ⟨z_26, e_27, h⟩ := bind_some h
  refine st_float mixed [0, 0, 0, 0, 0, 0, 0, 0, 0, 2] (by kernel_rfl) (by kernel_rfl) hS ?_
  refine sfA (sg (sp_move (od rfl))) ?_
  refine sfA (sg (sp_load ty34 (od rfl))) ?_
  refine sfA (sg (sp_move (od rfl))) ?_
  refine sfA (sg (sp_move (od rfl))) ?_
  refine sfA (sg (sp_len Tryz.underlying39 (od rfl))) ?_
  refine sfA (sg (sp_sub (od rfl) (odi))) ?_
  refine sfA (sg (sp_indexAddr sl39 (od rfl) (od rfl) e_23)) ?_
  refine sfA (sg (sp_load ty3 (od rfl))) ?_
  refine sfA (sg (sp_call en36 (f36_ok e_25) ⟨od rfl, od rfl, trivial⟩)) ?_
  refine sfT ?_
  refine sfN fun c a w hS hC => ?_
  refine ls ?_
  refine s_callFV (xs := [.tmp 41]) (φs := [isV (α := S_watch_lag) v_24]) (κs := κs_) (js1 := J_ s_8.2 u_12) (fr := fr) (Δ := [(2, Pr.clo g_ κs_), (33, Pr.clo g_ κs_), (41, isV (α := S_watch_lag) v_24), (1000000, Pr.seen c0_)]) (fun q e => by cases e; decide) hE.en (hE.ok e_27) hS ⟨od rfl, od rfl, od rfl, od rfl, trivial⟩ ⟨fun _ _ _ _ h => h, fun _ _ _ _ h => h, fun _ _ _ _ h => h, fun _ _ _ _ h => h, trivial⟩ (od rfl) ⟨od rfl, trivial⟩ fun a w x_28 hS hM => ?_
  have hS : St _ F0 (J_ z_26 x_28 ++ fr) _ w0 _ _ := hS
  have hC := Mem.le_trans hC hM
  refine s_next hC ?_
  refine s_done ?_
  have hS : St _ F0 (J_ z_26 x_28 ++ fr) _ w0 _ _ := hS
  cases h
  exact st_normalF (ρ := ⟨X, fun x_ => J_ _ x_, fun _ => Pr.top⟩) x_28 hS (run_results0 Tryz.results52 a w) rfl trivial

theorem f118_ok {p0 : S_watch_lag} {c0 : (S_watch_lag → Option Bool)} {r : Bool} (h : M.f118 p0 c0 = some r) : CallOK Tryz.prog 118 [isV p0, isA c0] (isV r) := by
  unfold M.f118 at h
  refine callS_of Tryz.func118 rfl Tryz.ntmps118 rfl fun F0 w0 a hS => ?_
  refine ws ?_
  refine st_reg mixed (by kernel_rfl) hS ?_
  refine cg (sp_box (od rfl)) ?_
  refine cg (sp_assign (odb)) ?_
  refine sn fun a w hS => ?_
  refine et ?_
  refine ws ?_
  obtain ⟨v_1, e_2, h⟩ := bind_some h
  refine st_reg mixed (by kernel_rfl) hS ?_
  refine cg (sp_load ty117 (od rfl)) ?_
  refine cg (sp_load ty66 (od rfl)) ?_
  refine cg (sp_callV (od_fn117 (od rfl)) ⟨od rfl, trivial⟩ e_2) ?_
  refine cg (sp_not (od rfl)) ?_
  refine cg (sp_assign (od rfl)) ?_
  refine sn fun a w hS => ?_
  refine et ?_
  refine wp_ret ?_
  cases h
  exact st_ret hS (run_results1 Tryz.results118 a w) (hS.get rfl)

theorem f132_ok {p0 : List S_watch_lag} {p1 : (S_watch_lag → Option Bool)} {r : Int} (h : M.f132 p0 p1 = some r) : CallOK Tryz.prog 132 [isV p0, isV p1] (isV r) := by
  unfold M.f132 at h
  refine callS_of Tryz.func132 rfl Tryz.ntmps132 rfl fun F0 w0 a hS => ?_
  refine ws ?_
  refine st_reg mixed (by kernel_rfl) hS ?_
  refine cg (sp_assign (odi)) ?_
  refine sn fun a w hS => ?_
  refine et ?_
  refine ws ?_
  refine ws ?_
  refine st_reg mixed (by kernel_rfl) hS ?_
  refine mv rfl ?_
  refine cg (sp_len Tryz.underlying115 (od rfl)) ?_
  refine cg (sp_move (odi)) ?_
  refine sn fun a w hS => ?_
  refine et ?_
  refine wp_block ?_
  obtain ⟨o_4, e_5, hr_6⟩ := bind_some h
  refine c_loop (fun K a w => ∃ k i_1 s_3, K = k + 1 ∧ ForI _ _ _ o_4 k i_1 s_3 ∧ St 19 F0 [] [(0, isV (α := List S_watch_lag) p0), (1, isV (α := (S_watch_lag → Option Bool)) p1), (7, isV (α := Int) (p0.length : Int)), (8, isV (α := Int) i_1)] w0 a w) ?_ ?_ ⟨_, _, _, rfl, for_init e_5, hS.weak ⟨od rfl, od rfl, od rfl, od rfl, trivial⟩⟩
  · rintro a w ⟨_, _, _, hk, _⟩; cases hk
  rintro K a w ⟨k_4, i_1, s_3, hk, hF_4, hS⟩
  obtain rfl := Nat.succ.inj hk
  refine ws ?_
  refine st_reg mixed (by kernel_rfl) hS ?_
  refine cg (sp_lss (od rfl) (od rfl)) ?_
  refine sn fun a w hS => ?_
  refine et ?_
  refine ws ?_
  refine st_cond hS rfl (fun hb => ?_) (fun hb => ?_)
  · refine wp_skip ?_
    refine et ?_
    obtain ⟨k_4, o, rfl, h, hN_4, hL_4, hw_4⟩ := for_more hF_4 hb
    refine ws ?_
    refine wp_block ?_
    refine ws ?_
    refine st_reg mixed (by kernel_rfl) hS ?_
    refine mv rfl ?_
    refine cg (sp_assign (od rfl)) ?_
    refine sn fun a w hS => ?_
    refine et ?_
    refine ws ?_
    obtain ⟨v_7, e_8, h⟩ := bind_some h
    obtain ⟨v_9, e_10, h⟩ := bind_some h
    refine st_reg mixed (by kernel_rfl) hS ?_
    refine mv rfl ?_
    refine mv rfl ?_
    refine mv rfl ?_
    refine cg (sp_indexAddr sl115 (od rfl) (od rfl) e_8) ?_
    refine cg (sp_load ty66 (od rfl)) ?_
    refine cg (sp_callV (od_fn117 (od rfl)) ⟨od rfl, trivial⟩ e_10) ?_
    refine sn fun a w hS => ?_
    refine et ?_
    refine st_cond hS rfl (fun hb => ?_) (fun hb => ?_)
    · have h := ite_t hb h
      refine ws ?_
      refine st_reg mixed (by kernel_rfl) hS ?_
      refine mv rfl ?_
      refine cg (sp_assign (od rfl)) ?_
      refine sn fun a w hS => ?_
      refine et ?_
      refine wp_ret ?_
      refine exit_blockR ?_
      refine exit_thenR ?_
      cases h
      obtain rfl := hL_4 _ rfl
      have h := (elim_leave hr_6)
      refine exit_thenR ?_
      refine exit_blockR ?_
      refine exit_thenR ?_
      cases h
      exact st_ret hS (run_results1 Tryz.results132 a w) (hS.get rfl)
    have h := ite_f hb h
    refine wp_skip ?_
    refine exit_block ?_
    refine et ?_
    refine st_reg mixed (by kernel_rfl) hS ?_
    refine cg (sp_add (od rfl) (odi)) ?_
    refine mv rfl ?_
    refine sn fun a w hS => ?_
    cases h
    exact ⟨k_4, _, _, rfl, hN_4 _ rfl, hS.weak ⟨od rfl, od rfl, od rfl, od (congrArg (fun z => some (isV (α := Int) z)) hw_4), trivial⟩⟩
  refine wp_exit ?_
  obtain rfl := for_done hF_4 hb
  have h := elim_again hr_6
  refine exit_thenE ?_
  refine exit_thenE ?_
  refine exit_here ?_
  refine et ?_
  refine ws ?_
  refine st_reg mixed (by kernel_rfl) hS ?_
  refine cg (sp_assign (odi)) ?_
  refine sn fun a w hS => ?_
  refine et ?_
  refine wp_ret ?_
  cases h
  exact st_ret hS (run_results1 Tryz.results132 a w) (hS.get rfl)

theorem f117_ok {p0 : List S_watch_lag} {p1 : (S_watch_lag → Option Bool)} {r : Bool} (h : M.f117 p0 p1 = some r) : CallOK Tryz.prog 117 [isV p0, isV p1] (isV r) := by
  unfold M.f117 at h
  refine callS_of Tryz.func117 rfl Tryz.ntmps117 rfl fun F0 w0 a hS => ?_
  refine ws ?_
  refine st_reg mixed (by kernel_rfl) hS ?_
  refine cg (sp_assign (odb)) ?_
  refine sn fun a w hS => ?_
  refine et ?_
  refine ws ?_
  obtain ⟨v_1, e_2, h⟩ := bind_some h
  refine st_reg mixed (by kernel_rfl) hS ?_
  refine mv rfl ?_
  refine mv rfl ?_
  refine cg (sp_call en132 (f132_ok e_2) ⟨od rfl, od rfl, trivial⟩) ?_
  refine cg (sp_geq (od rfl) (odi)) ?_
  refine cg (sp_assign (od rfl)) ?_
  refine sn fun a w hS => ?_
  refine et ?_
  refine wp_ret ?_
  cases h
  exact st_ret hS (run_results1 Tryz.results117 a w) (hS.get rfl)

theorem f96_ok {p0 : List S_watch_lag} {p1 : (S_watch_lag → Option Bool)} {r : Bool} (h : M.f96 p0 p1 = some r) : CallOK Tryz.prog 96 [isV p0, isV p1] (isV r) := by
  unfold M.f96 at h
  refine callS_of Tryz.func96 rfl Tryz.ntmps96 rfl fun F0 w0 a hS => ?_
  refine ws ?_
  refine st_reg mixed (by kernel_rfl) hS ?_
  refine cg (sp_box (od rfl)) ?_
  refine cg (sp_assign (odb)) ?_
  refine sn fun a w hS => ?_
  refine et ?_
  refine ws ?_
  obtain ⟨v_1, e_2, h⟩ := bind_some h
  refine st_reg mixed (by kernel_rfl) hS ?_
  refine mv rfl ?_
  refine cg (mk_fn117 (f := (fun x0 => M.f118 x0 p1)) (κs := [isA (α := (S_watch_lag → Option Bool)) p1]) ⟨fun _ _ _ _ h => h, trivial⟩ en118 ⟨od rfl, trivial⟩ (fun _ _ h => f118_ok h)) ?_
  refine cg (sp_call en117 (f117_ok e_2) ⟨od rfl, od rfl, trivial⟩) ?_
  refine cg (sp_not (od rfl)) ?_
  refine cg (sp_assign (od rfl)) ?_
  refine sn fun a w hS => ?_
  refine et ?_
  refine wp_ret ?_
  cases h
  exact st_ret hS (run_results1 Tryz.results96 a w) (hS.get rfl)

theorem f51_ok {fuel : Nat} {p0 : S_api_Roster} {p1 : Int} {p2 : List Int} {r : Bool} (h : M.f51 fuel p0 p1 p2 = some r) : CallOK Tryz.prog 51 [isV p0, isV p1, isV p2] (isV r) := by
  unfold M.f51 at h
  refine callS_of Tryz.func51 rfl Tryz.ntmps51 rfl fun F0 w0 a hS => ?_
  refine ws ?_
  refine st_reg mixed (by kernel_rfl) hS ?_
  refine cg (sp_box (od rfl)) ?_
  refine cg (sp_box (od rfl)) ?_
  refine cg (sp_assign (odb)) ?_
  refine sn fun a w hS => ?_
  refine et ?_
  refine ws ?_
  refine ws ?_
  obtain ⟨v_1, e_2, h⟩ := bind_some h
  obtain ⟨v_3, e_4, h⟩ := bind_some h
  refine st_reg mixed (by kernel_rfl) hS ?_
  refine mv rfl ?_
  refine cg (sp_len Tryz.underlying39 (od rfl)) ?_
  refine cg (sp_eql (od rfl) (odi)) ?_
  refine mv rfl ?_
  refine sc (sgF rfl fun hG => sp_move (od rfl)) ?_
  refine sc (sgF rfl fun hG => sp_call en57 (f57_ok (guard_some e_2 hG)) ⟨odw rfl hG, trivial⟩) ?_
  refine sc (sgF rfl fun hG => sp_not (odw rfl hG)) ?_
  refine cg (sp_pickOr (od rfl) fun hg => odw rfl (not_t hg)) ?_
  refine mv rfl ?_
  refine sc (sgF rfl fun hG => sp_load ty34 (od rfl)) ?_
  refine sc (sgF rfl fun hG => sp_move (od rfl)) ?_
  refine sc (sgF rfl fun hG => sp_call en32 (f32_ok (guard_some e_4 hG)) ⟨odw rfl hG, odw rfl hG, trivial⟩) ?_
  refine sc (sgF rfl fun hG => sp_neq (odw rfl hG) (odi)) ?_
  refine cg (sp_pickOr (od rfl) fun hg => odw rfl (not_t hg)) ?_
  refine sn fun a w hS => ?_
  refine et ?_
  refine st_cond hS rfl (fun hb => ?_) (fun hb => ?_)
  · have h := ite_t hb h
    refine ws ?_
    refine st_reg mixed (by kernel_rfl) hS ?_
    refine cg (sp_assign (odb)) ?_
    refine sn fun a w hS => ?_
    refine et ?_
    refine wp_ret ?_
    refine exit_thenR ?_
    cases h
    exact st_ret hS (run_results1 Tryz.results51 a w) (hS.get rfl)
  have h := ite_f hb h
  refine wp_skip ?_
  refine et ?_
  refine ws ?_
  refine ws ?_
  obtain ⟨v_5, e_6, h⟩ := bind_some h
  refine st_reg mixed (by kernel_rfl) hS ?_
  refine mv rfl ?_
  refine cg (mk_fn87 (f := (fun x0 => M.f94 x0 p0 p1)) (κs := [isA (α := S_api_Roster) p0, isA (α := Int) p1]) ⟨fun _ _ _ _ h => h, fun _ _ _ _ h => h, trivial⟩ en94 ⟨od rfl, od rfl, trivial⟩ (fun _ _ h => f94_ok h)) ?_
  refine cg (sp_call en55 (f55_ok e_6) ⟨od rfl, od rfl, trivial⟩) ?_
  refine sn fun a w hS => ?_
  refine et ?_
  refine st_cond hS rfl (fun hb => ?_) (fun hb => ?_)
  · have h := ite_t hb h
    refine ws ?_
    refine st_reg mixed (by kernel_rfl) hS ?_
    refine cg (sp_assign (odb)) ?_
    refine sn fun a w hS => ?_
    refine et ?_
    refine wp_ret ?_
    refine exit_thenR ?_
    cases h
    exact st_ret hS (run_results1 Tryz.results51 a w) (hS.get rfl)
  have h := ite_f hb h
  refine wp_skip ?_
  refine et ?_
  refine ws ?_
  refine l_start ?_
  refine s_alloc ziR115_w hS rfl fun a w b_7 hS hM => ?_
  have hS : St _ F0 [Item.box (α := Raw) 115 b_7 (Raw.mk (.slice none 0 0))] _ w0 _ _ := hS
  have hS := st_nil (α := S_watch_lag) 66 hS
  have hS : St _ F0 [Item.box (α := Raw) 115 b_7 (Raw.mk (.slice none 0 0)), Item.sl (α := S_watch_lag) 66 (.slice none 0 0) ([] : List S_watch_lag)] _ w0 _ _ := hS
  refine l_end ?_
  refine et ?_
  refine ws ?_
  obtain ⟨z_8, e_9, h⟩ := bind_some h
  refine l_start ?_
  refine s_c hS (sg (sp_load ty34 (od rfl))) rfl fun a w hS hM => ?_
  refine s_c hS (sg (sp_move (od rfl))) rfl fun a w hS hM => ?_
  refine s_c hS (sg (sp_makeClo (κs := [Pr.ptr b_7]) ⟨fun _ _ _ _ h => h, trivial⟩ ⟨(od rfl), trivial⟩)) rfl fun a w hS hM => ?_
  have hS := st_front 1 hS rfl
  have hS := st_front 1 hS rfl
  have hS : St _ F0 [Item.box (α := Raw) 115 b_7 (Raw.mk (.slice none 0 0)), Item.sl (α := S_watch_lag) 66 (.slice none 0 0) ([] : List S_watch_lag)] _ w0 _ _ := hS
  refine s_callFN (xs := [.tmp 25, .tmp 26, .tmp 27]) (φs := [isV (α := S_api_Roster) p0, isV (α := List Int) p2, Pr.clo 95 [Pr.ptr b_7]]) (js1 := [Item.box (α := Raw) 115 b_7 (Raw.mk (.slice none 0 0)), Item.sl (α := S_watch_lag) 66 (.slice none 0 0) ([] : List S_watch_lag)]) (fr := []) (Δ := [(7, Pr.ptr b_7), (25, isV (α := S_api_Roster) p0), (26, isV (α := List Int) p2), (27, Pr.clo 95 [Pr.ptr b_7])]) (fun q e => by cases e; decide) en52 (f52_ok (J_ := (fun (s_ : List S_watch_lag) (x_ : Value) => [Item.box (α := Raw) 115 b_7 (Raw.mk x_), Item.sl (α := S_watch_lag) 66 x_ s_])) (x0 := (.slice none 0 0)) ⟨en95, fun h => f95_ok h⟩ e_9) hS ⟨od rfl, od rfl, od rfl, od rfl, trivial⟩ ⟨fun _ _ _ _ h => h, fun _ _ _ _ h => h, fun _ _ _ _ h => h, fun _ _ _ _ h => h, trivial⟩ ⟨od rfl, od rfl, od rfl, trivial⟩ fun a w x_10 hS hM => ?_
  have hS : St _ F0 [Item.box (α := Raw) 115 b_7 (Raw.mk x_10), Item.sl (α := S_watch_lag) 66 x_10 z_8] _ w0 _ _ := hS
  refine l_end ?_
  refine et ?_
  refine ws ?_
  have hS := st_unraw 1 0 hS rfl rfl UnR.self
  have hS : St _ F0 [Item.box (α := List S_watch_lag) 115 b_7 (z_8 : List S_watch_lag)] _ w0 _ _ := hS
  have hS := st_freezeB 0 7 hS rfl rfl
  obtain ⟨v_11, e_12, h⟩ := bind_some h
  refine st_reg mixed (by kernel_rfl) hS ?_
  refine cg (sp_load ty115 (od rfl)) ?_
  refine cg (sp_call en96 (f96_ok e_12) ⟨od rfl, of_fn117 (f := (fun x0 => M.f34 x0)) en34 (fun _ _ h => f34_ok h), trivial⟩) ?_
  refine cg (sp_assign (od rfl)) ?_
  refine sn fun a w hS => ?_
  refine et ?_
  refine wp_ret ?_
  cases h
  exact st_ret hS (run_results1 Tryz.results51 a w) (hS.get rfl)

theorem f53_ok {p0 : S_watch_lag} {c0 : Int} {b0 : Nat} {r : Int} (h : M.f53 p0 c0 = some r) : CallF Tryz.prog 53 [Item.box (α := Int) 3 b0 c0] [isV p0, Pr.ptr b0] ⟨Unit, fun x_ => [Item.box (α := Int) 3 b0 r], fun _ => Pr.top⟩ := by
  unfold M.f53 at h
  refine callF_of Tryz.func53 rfl Tryz.ntmps53 rfl fun F0 fr w0 w c0_ a hS => ?_
  refine ws ?_
  refine st_reg mixed (by kernel_rfl) hS ?_
  refine cg (sp_box (od rfl)) ?_
  refine sn fun a w hS => ?_
  refine et ?_
  refine ws ?_
  refine st_reg mixed (by kernel_rfl) hS ?_
  refine cg (sp_fieldAddr fd66_1 (od rfl)) ?_
  refine cg (sp_load ty4 (od rfl)) ?_
  refine cg (sp_not (od rfl)) ?_
  refine sn fun a w hS => ?_
  refine et ?_
  obtain ⟨y_2, hj_1, h⟩ := bind_some h
  refine wp_mono (Q := fun e a w => e = Exit.normal ∧ St 11 F0 (Item.box (α := Int) 3 b0 y_2 :: fr) [(1, Pr.ptr b0), (1000000, Pr.seen c0_)] w0 a w) ?_ ?_
  · refine st_cond hS rfl (fun hb => ?_) (fun hb => ?_)
    · have h := ite_t hb hj_1
      refine l_start ?_
      have hS := st_box 0 1 hS rfl rfl
      refine s_c hS (sg (sp_loadB ty3 (odB rfl))) rfl fun a w hS hM => ?_
      refine s_c hS (sg (sp_fieldAddr fd66_0 (od rfl))) rfl fun a w hS hM => ?_
      refine s_c hS (sg (sp_load ty3 (od rfl))) rfl fun a w hS hM => ?_
      refine s_c hS (sg (sp_neg (od rfl))) rfl fun a w hS hM => ?_
      refine s_c hS (sg (sp_min (od rfl) (od rfl))) rfl fun a w hS hM => ?_
      refine s_storeB (k := 0) (Δ := [(1, Pr.ptr b0), (10, isV (α := Int) (imin c0 (wr (0 - p0.1)))), (1000000, Pr.seen c0_)]) ty3 hS rfl ⟨odBx rfl, od rfl, od rfl, trivial⟩ ⟨fun _ _ _ _ h => h, fun _ _ _ _ h => h, fun _ _ _ _ h => h, trivial⟩ rfl (od rfl) fun w hS hM => ?_
      have hS : St _ F0 (Item.box (α := Int) 3 b0 (imin c0 (wr (0 - p0.1))) :: fr) _ w0 _ _ := hS
      refine l_end ?_
      cases h
      exact ⟨rfl, hS.weak ⟨od rfl, od rfl, trivial⟩⟩
    have h := ite_f hb hj_1
    refine wp_skip ?_
    cases h
    exact ⟨rfl, hS.weak ⟨od rfl, od rfl, trivial⟩⟩
  rintro e a w ⟨rfl, hS⟩
  have hS : St _ F0 (Item.box (α := Int) 3 b0 y_2 :: fr) _ w0 _ _ := hS
  cases h
  exact st_normalF (ρ := ⟨Unit, fun x_ => [Item.box (α := Int) 3 b0 _], fun _ => Pr.top⟩) () hS (run_results0 Tryz.results53 a w) rfl trivial

theorem f19_ok {fuel : Nat} {p0 : S_api_Roster} {p1 : Int} {p2 : List Int} {r : Int × Int} (h : M.f19 fuel p0 p1 p2 = some r) : CallOK Tryz.prog 19 [isV p0, isV p1, isV p2] (isTup [isV r.1, isV r.2]) := by
  unfold M.f19 at h
  refine callS_of Tryz.func19 rfl Tryz.ntmps19 rfl fun F0 w0 a hS => ?_
  refine ws ?_
  refine st_reg mixed (by kernel_rfl) hS ?_
  refine cg (sp_box (od rfl)) ?_
  refine cg (sp_assign (odi)) ?_
  refine cg (sp_assign (odi)) ?_
  refine sn fun a w hS => ?_
  refine et ?_
  refine ws ?_
  refine ws ?_
  obtain ⟨v_1, e_2, h⟩ := bind_some h
  refine st_reg mixed (by kernel_rfl) hS ?_
  refine cg (sp_load ty34 (od rfl)) ?_
  refine mv rfl ?_
  refine cg (sp_call en40 (f40_ok e_2) ⟨od rfl, od rfl, trivial⟩) ?_
  refine cg (sp_assign (od rfl)) ?_
  refine sn fun a w hS => ?_
  refine et ?_
  refine ws ?_
  refine st_reg mixed (by kernel_rfl) hS ?_
  refine mv rfl ?_
  refine cg (sp_neq (od rfl) (odi)) ?_
  refine sn fun a w hS => ?_
  refine et ?_
  refine st_cond hS rfl (fun hb => ?_) (fun hb => ?_)
  · have h := ite_t hb h
    refine ws ?_
    refine st_reg mixed (by kernel_rfl) hS ?_
    refine mv rfl ?_
    refine cg (sp_assign (odi)) ?_
    refine cg (sp_assign (od rfl)) ?_
    refine sn fun a w hS => ?_
    refine et ?_
    refine wp_ret ?_
    refine exit_thenR ?_
    cases h
    exact st_ret hS (run_results2 Tryz.results19 a w) (⟨_, rfl, hS.get rfl, hS.get rfl, trivial⟩)
  have h := ite_f hb h
  refine wp_skip ?_
  refine et ?_
  refine ws ?_
  refine ws ?_
  obtain ⟨v_3, e_4, h⟩ := bind_some h
  refine st_reg mixed (by kernel_rfl) hS ?_
  refine cg (sp_load ty34 (od rfl)) ?_
  refine mv rfl ?_
  refine mv rfl ?_
  refine cg (sp_call en51 (f51_ok e_4) ⟨od rfl, od rfl, od rfl, trivial⟩) ?_
  refine cg (sp_not (od rfl)) ?_
  refine sn fun a w hS => ?_
  refine et ?_
  refine st_cond hS rfl (fun hb => ?_) (fun hb => ?_)
  · have h := ite_t hb h
    refine ws ?_
    refine st_reg mixed (by kernel_rfl) hS ?_
    refine cg (sp_assign (odi)) ?_
    refine cg (sp_assign (odi)) ?_
    refine sn fun a w hS => ?_
    refine et ?_
    refine wp_ret ?_
    refine exit_thenR ?_
    cases h
    exact st_ret hS (run_results2 Tryz.results19 a w) (⟨_, rfl, hS.get rfl, hS.get rfl, trivial⟩)
  have h := ite_f hb h
  refine wp_skip ?_
  refine et ?_
  refine ws ?_
  refine l_start ?_
  refine s_alloc zi3 hS rfl fun a w b_5 hS hM => ?_
  have hS : St _ F0 [Item.box (α := Int) 3 b_5 (0 : Int)] _ w0 _ _ := hS
  refine s_storeB (k := 0) (Δ := [(2, isV (α := List Int) p2), (3, isA (α := S_api_Roster) p0), (9, Pr.ptr b_5)]) ty3 hS rfl ⟨od rfl, od rfl, od rfl, trivial⟩ ⟨fun _ _ _ _ h => h, fun _ _ _ _ h => h, fun _ _ _ _ h => h, trivial⟩ rfl (odi) fun w hS hM => ?_
  have hS : St _ F0 [Item.box (α := Int) 3 b_5 (1048576 : Int)] _ w0 _ _ := hS
  refine l_end ?_
  refine et ?_
  refine ws ?_
  obtain ⟨z_6, e_7, h⟩ := bind_some h
  refine l_start ?_
  refine s_c hS (sg (sp_load ty34 (od rfl))) rfl fun a w hS hM => ?_
  refine s_c hS (sg (sp_move (od rfl))) rfl fun a w hS hM => ?_
  refine s_c hS (sg (sp_makeClo (κs := [Pr.ptr b_5]) ⟨fun _ _ _ _ h => h, trivial⟩ ⟨(od rfl), trivial⟩)) rfl fun a w hS hM => ?_
  have hS : St _ F0 [Item.box (α := Int) 3 b_5 (1048576 : Int)] _ w0 _ _ := hS
  refine s_callFN (xs := [.tmp 21, .tmp 22, .tmp 23]) (φs := [isV (α := S_api_Roster) p0, isV (α := List Int) p2, Pr.clo 53 [Pr.ptr b_5]]) (js1 := [Item.box (α := Int) 3 b_5 (1048576 : Int)]) (fr := []) (Δ := [(9, Pr.ptr b_5), (21, isV (α := S_api_Roster) p0), (22, isV (α := List Int) p2), (23, Pr.clo 53 [Pr.ptr b_5])]) (fun q e => by cases e; decide) en52 (f52_ok (J_ := (fun (s_ : Int) (_ : Unit) => [Item.box (α := Int) 3 b_5 s_])) (x0 := ()) ⟨en53, fun h => f53_ok h⟩ e_7) hS ⟨od rfl, od rfl, od rfl, od rfl, trivial⟩ ⟨fun _ _ _ _ h => h, fun _ _ _ _ h => h, fun _ _ _ _ h => h, fun _ _ _ _ h => h, trivial⟩ ⟨od rfl, od rfl, od rfl, trivial⟩ fun a w x_8 hS hM => ?_
  have hS : St _ F0 [Item.box (α := Int) 3 b_5 z_6] _ w0 _ _ := hS
  refine l_end ?_
  refine et ?_
  refine ws ?_
  have hS := st_box 0 9 hS rfl rfl
  refine st_reg mixed (by kernel_rfl) hS ?_
  refine cg (sp_loadB ty3 (odB rfl)) ?_
  refine cg (sp_assign (od rfl)) ?_
  refine cg (sp_assign (odi)) ?_
  refine sn fun a w hS => ?_
  refine et ?_
  refine wp_ret ?_
  cases h
  exact st_ret hS (run_results2 Tryz.results19 a w) (⟨_, rfl, hS.get rfl, hS.get rfl, trivial⟩)

theorem f56_ok {p0 : Int} {c0 : S_api_Roster} {c1 : List Int} {r : Bool} (h : M.f56 p0 c0 c1 = some r) : CallOK Tryz.prog 56 [isV p0, isA c0, isA c1] (isV r) := by
  unfold M.f56 at h
  refine callS_of Tryz.func56 rfl Tryz.ntmps56 rfl fun F0 w0 a hS => ?_
  refine ws ?_
  refine st_reg mixed (by kernel_rfl) hS ?_
  refine cg (sp_assign (odb)) ?_
  refine sn fun a w hS => ?_
  refine et ?_
  refine ws ?_
  obtain ⟨v_1, e_2, h⟩ := bind_some h
  obtain ⟨v_3, e_4, h⟩ := bind_some h
  refine st_reg mixed (by kernel_rfl) hS ?_
  refine cg (sp_fieldAddr fd34_4 (od rfl)) ?_
  refine cg (sp_load ty32 (od rfl)) ?_
  refine mv rfl ?_
  refine cg (sp_indexAddr sl32 (od rfl) (od rfl) e_2) ?_
  refine cg (sp_load ty23 (od rfl)) ?_
  refine cg (sp_load ty39 (od rfl)) ?_
  refine cg (sp_call en39 (f39_ok e_4) ⟨od rfl, od rfl, trivial⟩) ?_
  refine cg (sp_assign (od rfl)) ?_
  refine sn fun a w hS => ?_
  refine et ?_
  refine wp_ret ?_
  cases h
  exact st_ret hS (run_results1 Tryz.results56 a w) (hS.get rfl)

theorem f21_ok {p0 : S_api_Roster} {p1 : Int} {p2 : List Int} {p3 : List Int} {r : Int} (h : M.f21 p0 p1 p2 p3 = some r) : CallOK Tryz.prog 21 [isV p0, isV p1, isV p2, isV p3] (isV r) := by
  unfold M.f21 at h
  refine callS_of Tryz.func21 rfl Tryz.ntmps21 rfl fun F0 w0 a hS => ?_
  refine ws ?_
  refine st_reg mixed (by kernel_rfl) hS ?_
  refine cg (sp_box (od rfl)) ?_
  refine cg (sp_box (od rfl)) ?_
  refine cg (sp_assign (odi)) ?_
  refine sn fun a w hS => ?_
  refine et ?_
  refine ws ?_
  refine ws ?_
  obtain ⟨v_1, e_2, h⟩ := bind_some h
  refine st_reg mixed (by kernel_rfl) hS ?_
  refine cg (sp_load ty34 (od rfl)) ?_
  refine mv rfl ?_
  refine mv rfl ?_
  refine cg (sp_call en48 (f48_ok e_2) ⟨od rfl, od rfl, od rfl, trivial⟩) ?_
  refine cg (sp_assign (od rfl)) ?_
  refine sn fun a w hS => ?_
  refine et ?_
  refine ws ?_
  refine st_reg mixed (by kernel_rfl) hS ?_
  refine mv rfl ?_
  refine cg (sp_neq (od rfl) (odi)) ?_
  refine sn fun a w hS => ?_
  refine et ?_
  refine st_cond hS rfl (fun hb => ?_) (fun hb => ?_)
  · have h := ite_t hb h
    refine ws ?_
    refine st_reg mixed (by kernel_rfl) hS ?_
    refine mv rfl ?_
    refine cg (sp_assign (od rfl)) ?_
    refine sn fun a w hS => ?_
    refine et ?_
    refine wp_ret ?_
    refine exit_thenR ?_
    cases h
    exact st_ret hS (run_results1 Tryz.results21 a w) (hS.get rfl)
  have h := ite_f hb h
  refine wp_skip ?_
  refine et ?_
  refine ws ?_
  refine ws ?_
  obtain ⟨v_3, e_4, h⟩ := bind_some h
  refine st_reg mixed (by kernel_rfl) hS ?_
  refine cg (sp_load ty34 (od rfl)) ?_
  refine cg (sp_load ty39 (od rfl)) ?_
  refine cg (sp_call en37 (f37_ok e_4) ⟨od rfl, od rfl, trivial⟩) ?_
  refine cg (sp_not (od rfl)) ?_
  refine sn fun a w hS => ?_
  refine et ?_
  refine st_cond hS rfl (fun hb => ?_) (fun hb => ?_)
  · have h := ite_t hb h
    refine ws ?_
    refine st_reg mixed (by kernel_rfl) hS ?_
    refine cg (sp_assign (odi)) ?_
    refine sn fun a w hS => ?_
    refine et ?_
    refine wp_ret ?_
    refine exit_thenR ?_
    cases h
    exact st_ret hS (run_results1 Tryz.results21 a w) (hS.get rfl)
  have h := ite_f hb h
  refine wp_skip ?_
  refine et ?_
  refine ws ?_
  refine ws ?_
  obtain ⟨v_5, e_6, h⟩ := bind_some h
  obtain ⟨v_7, e_8, h⟩ := bind_some h
  obtain ⟨v_9, e_10, h⟩ := bind_some h
  obtain ⟨v_11, e_12, h⟩ := bind_some h
  refine st_reg mixed (by kernel_rfl) hS ?_
  refine cg (sp_load ty34 (od rfl)) ?_
  refine cg (sp_load ty39 (od rfl)) ?_
  refine cg (sp_call en38 (f38_ok e_6) ⟨od rfl, od rfl, trivial⟩) ?_
  refine cg (sp_not (od rfl)) ?_
  refine mv rfl ?_
  refine sc (sgF rfl fun hG => sp_load ty39 (od rfl)) ?_
  refine sc (sgF rfl fun hG => sp_indexAddr sl39 (odw rfl hG) (odi) (guard_some e_8 hG)) ?_
  refine sc (sgF rfl fun hG => sp_load ty3 (odw rfl hG)) ?_
  refine sc (sgF rfl fun hG => sp_fieldAddr fd34_1 (od rfl)) ?_
  refine sc (sgF rfl fun hG => sp_load ty3 (odw rfl hG)) ?_
  refine sc (sgF rfl fun hG => sp_fieldAddr fd34_2 (od rfl)) ?_
  refine sc (sgF rfl fun hG => sp_load ty3 (odw rfl hG)) ?_
  refine sc (sgF rfl fun hG => sp_sub (odw rfl hG) (odi)) ?_
  refine sc (sgF rfl fun hG => sp_call en54 (f54_ok (guard_some e_10 hG)) ⟨odw rfl hG, odw rfl hG, odw rfl hG, trivial⟩) ?_
  refine sc (sgF rfl fun hG => sp_not (odw rfl hG)) ?_
  refine cg (sp_pickOr (od rfl) fun hg => odw rfl (not_t hg)) ?_
  refine mv rfl ?_
  refine sc (sgF rfl fun hG => sp_move (od rfl)) ?_
  refine sc (sgF rfl fun hG => mk_fn87 (f := (fun x0 => M.f56 x0 p0 p3)) (κs := [isA (α := S_api_Roster) p0, isA (α := List Int) p3]) ⟨fun _ _ _ _ h => h, fun _ _ _ _ h => h, trivial⟩ en56 ⟨od rfl, od rfl, trivial⟩ (fun _ _ h => f56_ok h)) ?_
  refine sc (sgF rfl fun hG => sp_call en55 (f55_ok (guard_some e_12 hG)) ⟨odw rfl hG, odw rfl hG, trivial⟩) ?_
  refine cg (sp_pickOr (od rfl) fun hg => odw rfl (not_t hg)) ?_
  refine sn fun a w hS => ?_
  refine et ?_
  refine st_cond hS rfl (fun hb => ?_) (fun hb => ?_)
  · have h := ite_t hb h
    refine ws ?_
    refine st_reg mixed (by kernel_rfl) hS ?_
    refine cg (sp_assign (odi)) ?_
    refine sn fun a w hS => ?_
    refine et ?_
    refine wp_ret ?_
    refine exit_thenR ?_
    cases h
    exact st_ret hS (run_results1 Tryz.results21 a w) (hS.get rfl)
  have h := ite_f hb h
  refine wp_skip ?_
  refine et ?_
  refine ws ?_
  refine st_reg mixed (by kernel_rfl) hS ?_
  refine cg (sp_assign (odi)) ?_
  refine sn fun a w hS => ?_
  refine et ?_
  refine wp_ret ?_
  cases h
  exact st_ret hS (run_results1 Tryz.results21 a w) (hS.get rfl)

theorem f22_ok {fuel : Nat} {p0 : S_api_Roster} {p1 : Int} {p2 : List Int} {r : Int} (h : M.f22 fuel p0 p1 p2 = some r) : CallOK Tryz.prog 22 [isV p0, isV p1, isV p2] (isV r) := by
  unfold M.f22 at h
  refine callS_of Tryz.func22 rfl Tryz.ntmps22 rfl fun F0 w0 a hS => ?_
  refine ws ?_
  refine st_reg mixed (by kernel_rfl) hS ?_
  refine cg (sp_box (od rfl)) ?_
  refine cg (sp_assign (odi)) ?_
  refine sn fun a w hS => ?_
  refine et ?_
  refine ws ?_
  refine ws ?_
  obtain ⟨v_1, e_2, h⟩ := bind_some h
  refine st_reg mixed (by kernel_rfl) hS ?_
  refine cg (sp_load ty34 (od rfl)) ?_
  refine mv rfl ?_
  refine cg (sp_call en40 (f40_ok e_2) ⟨od rfl, od rfl, trivial⟩) ?_
  refine cg (sp_assign (od rfl)) ?_
  refine sn fun a w hS => ?_
  refine et ?_
  refine ws ?_
  refine st_reg mixed (by kernel_rfl) hS ?_
  refine mv rfl ?_
  refine cg (sp_neq (od rfl) (odi)) ?_
  refine sn fun a w hS => ?_
  refine et ?_
  refine st_cond hS rfl (fun hb => ?_) (fun hb => ?_)
  · have h := ite_t hb h
    refine ws ?_
    refine st_reg mixed (by kernel_rfl) hS ?_
    refine mv rfl ?_
    refine cg (sp_assign (od rfl)) ?_
    refine sn fun a w hS => ?_
    refine et ?_
    refine wp_ret ?_
    refine exit_thenR ?_
    cases h
    exact st_ret hS (run_results1 Tryz.results22 a w) (hS.get rfl)
  have h := ite_f hb h
  refine wp_skip ?_
  refine et ?_
  refine ws ?_
  refine ws ?_
  obtain ⟨v_3, e_4, h⟩ := bind_some h
  refine st_reg mixed (by kernel_rfl) hS ?_
  refine cg (sp_load ty34 (od rfl)) ?_
  refine mv rfl ?_
  refine mv rfl ?_
  refine cg (sp_call en51 (f51_ok e_4) ⟨od rfl, od rfl, od rfl, trivial⟩) ?_
  refine cg (sp_not (od rfl)) ?_
  refine sn fun a w hS => ?_
  refine et ?_
  refine st_cond hS rfl (fun hb => ?_) (fun hb => ?_)
  · have h := ite_t hb h
    refine ws ?_
    refine st_reg mixed (by kernel_rfl) hS ?_
    refine cg (sp_assign (odi)) ?_
    refine sn fun a w hS => ?_
    refine et ?_
    refine wp_ret ?_
    refine exit_thenR ?_
    cases h
    exact st_ret hS (run_results1 Tryz.results22 a w) (hS.get rfl)
  have h := ite_f hb h
  refine wp_skip ?_
  refine et ?_
  refine ws ?_
  refine st_reg mixed (by kernel_rfl) hS ?_
  refine cg (sp_assign (odi)) ?_
  refine sn fun a w hS => ?_
  refine et ?_
  refine wp_ret ?_
  cases h
  exact st_ret hS (run_results1 Tryz.results22 a w) (hS.get rfl)

theorem f98_ok {p0 : Int} {p1 : Int} {r : Bool} (h : M.f98 p0 p1 = some r) : CallOK Tryz.prog 98 [isV p0, isV p1] (isV r) := by
  unfold M.f98 at h
  refine callS_of Tryz.func98 rfl Tryz.ntmps98 rfl fun F0 w0 a hS => ?_
  refine ws ?_
  refine st_reg mixed (by kernel_rfl) hS ?_
  refine cg (sp_assign (odb)) ?_
  refine sn fun a w hS => ?_
  refine et ?_
  refine ws ?_
  obtain ⟨v_1, e_2, h⟩ := bind_some h
  obtain ⟨v_3, e_4, h⟩ := bind_some h
  refine st_reg mixed (by kernel_rfl) hS ?_
  refine mv rfl ?_
  refine cg (sp_call en111 (f111_ok e_2) ⟨od rfl, trivial⟩) ?_
  refine mv rfl ?_
  refine sc (sgT rfl fun hG => sp_move (od rfl)) ?_
  refine sc (sgT rfl fun hG => sp_call en111 (f111_ok (guard_some e_4 hG)) ⟨odw rfl hG, trivial⟩) ?_
  refine sc (sgT rfl fun hG => sp_not (odw rfl hG)) ?_
  refine cg (sp_pickAnd (od rfl) fun hg => odw rfl hg) ?_
  refine mv rfl ?_
  refine sc (sgF rfl fun hG => sp_move (od rfl)) ?_
  refine sc (sgF rfl fun hG => sp_move (od rfl)) ?_
  refine sc (sgF rfl fun hG => sp_lss (odw rfl hG) (odw rfl hG)) ?_
  refine cg (sp_pickOr (od rfl) fun hg => odw rfl (not_t hg)) ?_
  refine cg (sp_assign (od rfl)) ?_
  refine sn fun a w hS => ?_
  refine et ?_
  refine wp_ret ?_
  cases h
  exact st_ret hS (run_results1 Tryz.results98 a w) (hS.get rfl)

theorem f58_ok {fuel : Nat} {p0 : List Int} {r : Bool} (h : M.f58 fuel p0 = some r) : CallOK Tryz.prog 58 [isV p0] (isV r) := by
  unfold M.f58 at h
  refine callS_of Tryz.func58 rfl Tryz.ntmps58 rfl fun F0 w0 a hS => ?_
  refine ws ?_
  refine st_reg mixed (by kernel_rfl) hS ?_
  refine cg (sp_assign (odb)) ?_
  refine sn fun a w hS => ?_
  refine et ?_
  refine ws ?_
  refine ws ?_
  refine st_reg mixed (by kernel_rfl) hS ?_
  refine mv rfl ?_
  refine cg (sp_len Tryz.underlying39 (od rfl)) ?_
  refine cg (sp_sub (od rfl) (odi)) ?_
  refine cg (sp_assign (od rfl)) ?_
  refine sn fun a w hS => ?_
  refine et ?_
  refine wp_block ?_
  obtain ⟨o_2, e_3, hr_4⟩ := bind_some h
  refine c_loop (fun K a w => ∃ s_1 : Int, loopM _ K s_1 = some o_2 ∧ St 21 F0 [] [(0, isV (α := List Int) p0), (3, isV (α := Int) s_1)] w0 a w) ?_ ?_ ⟨_, e_3, hS.weak ⟨od rfl, od rfl, trivial⟩⟩
  · rintro a w ⟨_, hk, _⟩; cases hk
  rintro K a w ⟨s_1, hF_2, hS⟩
  obtain ⟨o, h, hN_2, hL_2⟩ := loop_more hF_2
  refine ws ?_
  refine ws ?_
  refine st_reg mixed (by kernel_rfl) hS ?_
  refine mv rfl ?_
  refine cg (sp_gtr (od rfl) (odi)) ?_
  refine sn fun a w hS => ?_
  refine et ?_
  refine st_cond hS rfl (fun hb => ?_) (fun hb => ?_)
  · have h := ite_t hb h
    refine wp_skip ?_
    refine et ?_
    refine ws ?_
    refine wp_block ?_
    refine ws ?_
    obtain ⟨v_5, e_6, h⟩ := bind_some h
    obtain ⟨v_7, e_8, h⟩ := bind_some h
    obtain ⟨v_9, e_10, h⟩ := bind_some h
    refine st_reg mixed (by kernel_rfl) hS ?_
    refine mv rfl ?_
    refine mv rfl ?_
    refine cg (sp_indexAddr sl39 (od rfl) (od rfl) e_6) ?_
    refine cg (sp_load ty3 (od rfl)) ?_
    refine mv rfl ?_
    refine mv rfl ?_
    refine cg (sp_sub (od rfl) (odi)) ?_
    refine cg (sp_indexAddr sl39 (od rfl) (od rfl) e_8) ?_
    refine cg (sp_load ty3 (od rfl)) ?_
    refine cg (sp_call en98 (f98_ok e_10) ⟨od rfl, od rfl, trivial⟩) ?_
    refine sn fun a w hS => ?_
    refine et ?_
    refine st_cond hS rfl (fun hb => ?_) (fun hb => ?_)
    · have h := ite_t hb h
      refine ws ?_
      refine st_reg mixed (by kernel_rfl) hS ?_
      refine cg (sp_assign (odb)) ?_
      refine sn fun a w hS => ?_
      refine et ?_
      refine wp_ret ?_
      refine exit_blockR ?_
      refine exit_thenR ?_
      cases h
      obtain rfl := hL_2 _ rfl
      have h := (sum_inr hr_4)
      refine exit_thenR ?_
      refine exit_blockR ?_
      refine exit_thenR ?_
      cases h
      exact st_ret hS (run_results1 Tryz.results58 a w) (hS.get rfl)
    have h := ite_f hb h
    refine wp_skip ?_
    refine exit_block ?_
    refine et ?_
    refine st_reg mixed (by kernel_rfl) hS ?_
    refine mv rfl ?_
    refine cg (sp_sub (od rfl) (odi)) ?_
    refine cg (sp_assign (od rfl)) ?_
    refine sn fun a w hS => ?_
    cases h
    exact ⟨_, hN_2 _ rfl, hS.weak ⟨od rfl, od rfl, trivial⟩⟩
  have h := ite_f hb h
  refine wp_exit ?_
  refine exit_thenE ?_
  cases h
  obtain rfl := hL_2 _ rfl
  have h := (sum_inl hr_4)
  refine exit_thenE ?_
  refine exit_here ?_
  refine et ?_
  refine ws ?_
  refine st_reg mixed (by kernel_rfl) hS ?_
  refine cg (sp_assign (odb)) ?_
  refine sn fun a w hS => ?_
  refine et ?_
  refine wp_ret ?_
  cases h
  exact st_ret hS (run_results1 Tryz.results58 a w) (hS.get rfl)

theorem f59_ok {p0 : Int} {c0 : S_api_Roster} {c1 : Int} {r : Bool} (h : M.f59 p0 c0 c1 = some r) : CallOK Tryz.prog 59 [isV p0, isA c0, isA c1] (isV r) := by
  unfold M.f59 at h
  refine callS_of Tryz.func59 rfl Tryz.ntmps59 rfl fun F0 w0 a hS => ?_
  refine ws ?_
  refine st_reg mixed (by kernel_rfl) hS ?_
  refine cg (sp_assign (odb)) ?_
  refine sn fun a w hS => ?_
  refine et ?_
  refine ws ?_
  obtain ⟨v_1, e_2, h⟩ := bind_some h
  refine st_reg mixed (by kernel_rfl) hS ?_
  refine cg (sp_fieldAddr fd34_4 (od rfl)) ?_
  refine cg (sp_load ty32 (od rfl)) ?_
  refine mv rfl ?_
  refine cg (sp_indexAddr sl32 (od rfl) (od rfl) e_2) ?_
  refine cg (sp_fieldAddr fd23_0 (od rfl)) ?_
  refine cg (sp_load ty3 (od rfl)) ?_
  refine cg (sp_load ty3 (od rfl)) ?_
  refine cg (sp_neq (od rfl) (od rfl)) ?_
  refine cg (sp_assign (od rfl)) ?_
  refine sn fun a w hS => ?_
  refine et ?_
  refine wp_ret ?_
  cases h
  exact st_ret hS (run_results1 Tryz.results59 a w) (hS.get rfl)

theorem f60_ok {p0 : Int} {c0 : List Int} {r : Bool} (h : M.f60 p0 c0 = some r) : CallOK Tryz.prog 60 [isV p0, isA c0] (isV r) := by
  unfold M.f60 at h
  refine callS_of Tryz.func60 rfl Tryz.ntmps60 rfl fun F0 w0 a hS => ?_
  refine ws ?_
  refine st_reg mixed (by kernel_rfl) hS ?_
  refine cg (sp_assign (odb)) ?_
  refine sn fun a w hS => ?_
  refine et ?_
  refine ws ?_
  obtain ⟨v_1, e_2, h⟩ := bind_some h
  refine st_reg mixed (by kernel_rfl) hS ?_
  refine cg (sp_load ty39 (od rfl)) ?_
  refine mv rfl ?_
  refine cg (sp_call en61 (f61_ok e_2) ⟨od rfl, od rfl, trivial⟩) ?_
  refine cg (sp_assign (od rfl)) ?_
  refine sn fun a w hS => ?_
  refine et ?_
  refine wp_ret ?_
  cases h
  exact st_ret hS (run_results1 Tryz.results60 a w) (hS.get rfl)

theorem f64_ok {p0 : Int} {c0 : S_api_Roster} {c1 : Int} {r : Bool} (h : M.f64 p0 c0 c1 = some r) : CallOK Tryz.prog 64 [isV p0, isA c0, isA c1] (isV r) := by
  unfold M.f64 at h
  refine callS_of Tryz.func64 rfl Tryz.ntmps64 rfl fun F0 w0 a hS => ?_
  refine ws ?_
  refine st_reg mixed (by kernel_rfl) hS ?_
  refine cg (sp_assign (odb)) ?_
  refine sn fun a w hS => ?_
  refine et ?_
  refine ws ?_
  obtain ⟨v_1, e_2, h⟩ := bind_some h
  refine st_reg mixed (by kernel_rfl) hS ?_
  refine cg (sp_load ty34 (od rfl)) ?_
  refine mv rfl ?_
  refine cg (sp_load ty3 (od rfl)) ?_
  refine cg (sp_call en35 (f35_ok e_2) ⟨od rfl, od rfl, od rfl, trivial⟩) ?_
  refine cg (sp_assign (od rfl)) ?_
  refine sn fun a w hS => ?_
  refine et ?_
  refine wp_ret ?_
  cases h
  exact st_ret hS (run_results1 Tryz.results64 a w) (hS.get rfl)

theorem f63_ok {p0 : Int} {c0 : (Int → Option Bool)} {c1 : S_api_Roster} {c2 : List Int} {r : Bool} (h : M.f63 p0 c0 c1 c2 = some r) : CallOK Tryz.prog 63 [isV p0, isA c0, isA c1, isA c2] (isV r) := by
  unfold M.f63 at h
  refine callS_of Tryz.func63 rfl Tryz.ntmps63 rfl fun F0 w0 a hS => ?_
  refine ws ?_
  refine st_reg mixed (by kernel_rfl) hS ?_
  refine cg (sp_box (od rfl)) ?_
  refine cg (sp_assign (odb)) ?_
  refine sn fun a w hS => ?_
  refine et ?_
  refine ws ?_
  obtain ⟨v_1, e_2, h⟩ := bind_some h
  obtain ⟨v_3, e_4, h⟩ := bind_some h
  obtain ⟨v_5, e_6, h⟩ := bind_some h
  obtain ⟨v_7, e_8, h⟩ := bind_some h
  refine st_reg mixed (by kernel_rfl) hS ?_
  refine cg (sp_load ty87 (od rfl)) ?_
  refine cg (sp_load ty3 (od rfl)) ?_
  refine cg (sp_callV (od_fn87 (od rfl)) ⟨od rfl, trivial⟩ e_2) ?_
  refine cg (sp_not (od rfl)) ?_
  refine mv rfl ?_
  refine sc (sgT rfl fun hG => sp_load ty34 (od rfl)) ?_
  refine sc (sgT rfl fun hG => sp_load ty3 (od rfl)) ?_
  refine sc (sgT rfl fun hG => sp_call en33 (f33_ok (guard_some e_4 hG)) ⟨odw rfl hG, odw rfl hG, trivial⟩) ?_
  refine sc (sgT rfl fun hG => sp_call en34 (f34_ok (guard_some e_6 hG)) ⟨odw rfl hG, trivial⟩) ?_
  refine sc (sgT rfl fun hG => sp_move (odw rfl hG)) ?_
  refine sc (sgwF rfl fun hG => sp_load ty39 (od rfl)) ?_
  refine sc (sgwF rfl fun hG => mk_fn87 (f := (fun x0 => M.f64 x0 c1 p0)) (κs := [isA (α := S_api_Roster) c1, isA (α := Int) p0]) ⟨fun _ _ _ _ h => h, fun _ _ _ _ h => h, trivial⟩ en64 ⟨od rfl, od rfl, trivial⟩ (fun _ _ h => f64_ok h)) ?_
  refine sc (sgwF rfl fun hG => sp_call en55 (f55_ok (guard_some e_8 hG)) ⟨odw rfl hG, odw rfl hG, trivial⟩) ?_
  refine sc (sgT rfl fun hG => sp_pickOr (odw rfl hG) fun hg => odw rfl (and_mk hG (not_t hg))) ?_
  refine cg (sp_pickAnd (od rfl) fun hg => odw rfl hg) ?_
  refine cg (sp_assign (od rfl)) ?_
  refine sn fun a w hS => ?_
  refine et ?_
  refine wp_ret ?_
  cases h
  exact st_ret hS (run_results1 Tryz.results63 a w) (hS.get rfl)

theorem f23_ok {fuel : Nat} {p0 : S_api_Roster} {p1 : Int} {p2 : List Int} {r : Int} (h : M.f23 fuel p0 p1 p2 = some r) : CallOK Tryz.prog 23 [isV p0, isV p1, isV p2] (isV r) := by
  unfold M.f23 at h
  refine callS_of Tryz.func23 rfl Tryz.ntmps23 rfl fun F0 w0 a hS => ?_
  refine ws ?_
  refine st_reg mixed (by kernel_rfl) hS ?_
  refine cg (sp_box (od rfl)) ?_
  refine cg (sp_box (od rfl)) ?_
  refine cg (sp_box (od rfl)) ?_
  refine cg (sp_assign (odi)) ?_
  refine sn fun a w hS => ?_
  refine et ?_
  refine ws ?_
  refine ws ?_
  obtain ⟨v_1, e_2, h⟩ := bind_some h
  refine st_reg mixed (by kernel_rfl) hS ?_
  refine cg (sp_load ty34 (od rfl)) ?_
  refine cg (sp_load ty3 (od rfl)) ?_
  refine cg (sp_call en40 (f40_ok e_2) ⟨od rfl, od rfl, trivial⟩) ?_
  refine cg (sp_assign (od rfl)) ?_
  refine sn fun a w hS => ?_
  refine et ?_
  refine ws ?_
  refine st_reg mixed (by kernel_rfl) hS ?_
  refine mv rfl ?_
  refine cg (sp_neq (od rfl) (odi)) ?_
  refine sn fun a w hS => ?_
  refine et ?_
  refine st_cond hS rfl (fun hb => ?_) (fun hb => ?_)
  · have h := ite_t hb h
    refine ws ?_
    refine st_reg mixed (by kernel_rfl) hS ?_
    refine mv rfl ?_
    refine cg (sp_assign (od rfl)) ?_
    refine sn fun a w hS => ?_
    refine et ?_
    refine wp_ret ?_
    refine exit_thenR ?_
    cases h
    exact st_ret hS (run_results1 Tryz.results23 a w) (hS.get rfl)
  have h := ite_f hb h
  refine wp_skip ?_
  refine et ?_
  refine ws ?_
  refine ws ?_
  obtain ⟨v_3, e_4, h⟩ := bind_some h
  obtain ⟨v_5, e_6, h⟩ := bind_some h
  obtain ⟨v_7, e_8, h⟩ := bind_some h
  obtain ⟨v_9, e_10, h⟩ := bind_some h
  refine st_reg mixed (by kernel_rfl) hS ?_
  refine cg (sp_load ty34 (od rfl)) ?_
  refine cg (sp_load ty39 (od rfl)) ?_
  refine cg (sp_call en32 (f32_ok e_4) ⟨od rfl, od rfl, trivial⟩) ?_
  refine cg (sp_neq (od rfl) (odi)) ?_
  refine mv rfl ?_
  refine sc (sgF rfl fun hG => sp_load ty39 (od rfl)) ?_
  refine sc (sgF rfl fun hG => sp_call en57 (f57_ok (guard_some e_6 hG)) ⟨odw rfl hG, trivial⟩) ?_
  refine sc (sgF rfl fun hG => sp_not (odw rfl hG)) ?_
  refine cg (sp_pickOr (od rfl) fun hg => odw rfl (not_t hg)) ?_
  refine mv rfl ?_
  refine sc (sgF rfl fun hG => sp_load ty39 (od rfl)) ?_
  refine sc (sgF rfl fun hG => sp_call en58 (f58_ok (guard_some e_8 hG)) ⟨odw rfl hG, trivial⟩) ?_
  refine sc (sgF rfl fun hG => sp_not (odw rfl hG)) ?_
  refine cg (sp_pickOr (od rfl) fun hg => odw rfl (not_t hg)) ?_
  refine mv rfl ?_
  refine sc (sgF rfl fun hG => sp_load ty39 (od rfl)) ?_
  refine sc (sgF rfl fun hG => mk_fn87 (f := (fun x0 => M.f59 x0 p0 p1)) (κs := [isA (α := S_api_Roster) p0, isA (α := Int) p1]) ⟨fun _ _ _ _ h => h, fun _ _ _ _ h => h, trivial⟩ en59 ⟨od rfl, od rfl, trivial⟩ (fun _ _ h => f59_ok h)) ?_
  refine sc (sgF rfl fun hG => sp_call en55 (f55_ok (guard_some e_10 hG)) ⟨odw rfl hG, odw rfl hG, trivial⟩) ?_
  refine cg (sp_pickOr (od rfl) fun hg => odw rfl (not_t hg)) ?_
  refine sn fun a w hS => ?_
  refine et ?_
  refine st_cond hS rfl (fun hb => ?_) (fun hb => ?_)
  · have h := ite_t hb h
    refine ws ?_
    refine st_reg mixed (by kernel_rfl) hS ?_
    refine cg (sp_assign (odi)) ?_
    refine sn fun a w hS => ?_
    refine et ?_
    refine wp_ret ?_
    refine exit_thenR ?_
    cases h
    exact st_ret hS (run_results1 Tryz.results23 a w) (hS.get rfl)
  have h := ite_f hb h
  refine wp_skip ?_
  refine et ?_
  refine ws ?_
  refine l_start ?_
  refine s_c hS (sg (mk_fn87 (f := (fun x0 => M.f60 x0 p2)) (κs := [isA (α := List Int) p2]) ⟨fun _ _ _ _ h => h, trivial⟩ en60 ⟨od rfl, trivial⟩ (fun _ _ h => f60_ok h))) rfl fun a w hS hM => ?_
  refine s_allocStore ze87 hS (od rfl) (fun k hk => by cases hk; rfl) rfl fun a w hS hM => ?_
  refine l_end ?_
  refine et ?_
  refine ws ?_
  obtain ⟨v_11, e_12, h⟩ := bind_some h
  refine st_reg mixed (by kernel_rfl) hS ?_
  refine cg (sp_load ty34 (od rfl)) ?_
  refine cg (sp_load ty3 (od rfl)) ?_
  refine cg (mk_fn87 (f := (fun x0 => M.f63 x0 ((fun x0 => M.f60 x0 p2) : (Int → Option Bool)) p0 p2)) (κs := [isA (α := (Int → Option Bool)) ((fun x0 => M.f60 x0 p2) : (Int → Option Bool)), isA (α := S_api_Roster) p0, isA (α := List Int) p2]) ⟨fun _ _ _ _ h => h, fun _ _ _ _ h => h, fun _ _ _ _ h => h, trivial⟩ en63 ⟨od rfl, od rfl, od rfl, trivial⟩ (fun _ _ h => f63_ok h)) ?_
  refine cg (sp_call en62 (f62_ok e_12) ⟨od rfl, od rfl, od rfl, trivial⟩) ?_
  refine cg (sp_assign (od rfl)) ?_
  refine sn fun a w hS => ?_
  refine et ?_
  refine ws ?_
  refine ws ?_
  obtain ⟨v_13, e_14, h⟩ := bind_some h
  refine st_reg mixed (by kernel_rfl) hS ?_
  refine cg (sp_load ty34 (od rfl)) ?_
  refine cg (sp_load ty39 (od rfl)) ?_
  refine cg (sp_call en47 (f47_ok e_14) ⟨od rfl, od rfl, trivial⟩) ?_
  refine mv rfl ?_
  refine sc (sgF rfl fun hG => sp_move (od rfl)) ?_
  refine sc (sgF rfl fun hG => sp_len Tryz.underlying39 (odw rfl hG)) ?_
  refine sc (sgF rfl fun hG => sp_gtr (odw rfl hG) (odi)) ?_
  refine cg (sp_pickOr (od rfl) fun hg => odw rfl (not_t hg)) ?_
  refine sn fun a w hS => ?_
  refine et ?_
  refine st_cond hS rfl (fun hb => ?_) (fun hb => ?_)
  · have h := ite_t hb h
    refine ws ?_
    refine st_reg mixed (by kernel_rfl) hS ?_
    refine cg (sp_assign (odi)) ?_
    refine sn fun a w hS => ?_
    refine et ?_
    refine wp_ret ?_
    refine exit_thenR ?_
    cases h
    exact st_ret hS (run_results1 Tryz.results23 a w) (hS.get rfl)
  have h := ite_f hb h
  refine wp_skip ?_
  refine et ?_
  refine ws ?_
  refine st_reg mixed (by kernel_rfl) hS ?_
  refine cg (sp_assign (odi)) ?_
  refine sn fun a w hS => ?_
  refine et ?_
  refine wp_ret ?_
  cases h
  exact st_ret hS (run_results1 Tryz.results23 a w) (hS.get rfl)

theorem f65_ok {p0 : Int} {r : Bool} (h : M.f65 p0 = some r) : CallOK Tryz.prog 65 [isV p0] (isV r) := by
  unfold M.f65 at h
  refine callS_of Tryz.func65 rfl Tryz.ntmps65 rfl fun F0 w0 a hS => ?_
  refine ws ?_
  refine st_reg mixed (by kernel_rfl) hS ?_
  refine cg (sp_assign (odb)) ?_
  refine sn fun a w hS => ?_
  refine et ?_
  refine ws ?_
  obtain ⟨v_1, e_2, h⟩ := bind_some h
  refine st_reg mixed (by kernel_rfl) hS ?_
  refine mv rfl ?_
  refine cg (sp_call en54 (f54_ok e_2) ⟨od rfl, odi, odi, trivial⟩) ?_
  refine cg (sp_not (od rfl)) ?_
  refine cg (sp_assign (od rfl)) ?_
  refine sn fun a w hS => ?_
  refine et ?_
  refine wp_ret ?_
  cases h
  exact st_ret hS (run_results1 Tryz.results65 a w) (hS.get rfl)

theorem f67_ok {p0 : Int} {c0 : S_api_Roster} {c1 : Int} {c2 : List Int} {r : Bool} (h : M.f67 p0 c0 c1 c2 = some r) : CallOK Tryz.prog 67 [isV p0, isA c0, isA c1, isA c2] (isV r) := by
  unfold M.f67 at h
  refine callS_of Tryz.func67 rfl Tryz.ntmps67 rfl fun F0 w0 a hS => ?_
  refine ws ?_
  refine st_reg mixed (by kernel_rfl) hS ?_
  refine cg (sp_assign (odb)) ?_
  refine sn fun a w hS => ?_
  refine et ?_
  refine ws ?_
  obtain ⟨v_1, e_2, h⟩ := bind_some h
  obtain ⟨v_3, e_4, h⟩ := bind_some h
  obtain ⟨v_5, e_6, h⟩ := bind_some h
  obtain ⟨v_7, e_8, h⟩ := bind_some h
  refine st_reg mixed (by kernel_rfl) hS ?_
  refine cg (sp_load ty34 (od rfl)) ?_
  refine mv rfl ?_
  refine cg (sp_load ty3 (od rfl)) ?_
  refine cg (sp_call en35 (f35_ok e_2) ⟨od rfl, od rfl, od rfl, trivial⟩) ?_
  refine mv rfl ?_
  refine sc (sgT rfl fun hG => sp_load ty39 (od rfl)) ?_
  refine sc (sgT rfl fun hG => sp_load ty3 (od rfl)) ?_
  refine sc (sgT rfl fun hG => sp_indexAddr sl39 (odw rfl hG) (odw rfl hG) (guard_some e_4 hG)) ?_
  refine sc (sgT rfl fun hG => sp_load ty3 (odw rfl hG)) ?_
  refine sc (sgT rfl fun hG => sp_load ty39 (od rfl)) ?_
  refine sc (sgT rfl fun hG => sp_move (od rfl)) ?_
  refine sc (sgT rfl fun hG => sp_indexAddr sl39 (odw rfl hG) (odw rfl hG) (guard_some e_6 hG)) ?_
  refine sc (sgT rfl fun hG => sp_load ty3 (odw rfl hG)) ?_
  refine sc (sgT rfl fun hG => sp_fieldAddr fd34_4 (od rfl)) ?_
  refine sc (sgT rfl fun hG => sp_load ty32 (odw rfl hG)) ?_
  refine sc (sgT rfl fun hG => sp_load ty3 (od rfl)) ?_
  refine sc (sgT rfl fun hG => sp_indexAddr sl32 (odw rfl hG) (odw rfl hG) (guard_some e_8 hG)) ?_
  refine sc (sgT rfl fun hG => sp_fieldAddr fd23_5 (odw rfl hG)) ?_
  refine sc (sgT rfl fun hG => sp_load ty3 (odw rfl hG)) ?_
  refine sc (sgT rfl fun hG => sp_add (odw rfl hG) (odw rfl hG)) ?_
  refine sc (sgT rfl fun hG => sp_gtr (odw rfl hG) (odw rfl hG)) ?_
  refine cg (sp_pickAnd (od rfl) fun hg => odw rfl hg) ?_
  refine cg (sp_assign (od rfl)) ?_
  refine sn fun a w hS => ?_
  refine et ?_
  refine wp_ret ?_
  cases h
  exact st_ret hS (run_results1 Tryz.results67 a w) (hS.get rfl)

theorem f66_ok {p0 : Int} {c0 : S_api_Roster} {c1 : List Int} {c2 : Int} {c3 : Int} {r : Bool} (h : M.f66 p0 c0 c1 c2 c3 = some r) : CallOK Tryz.prog 66 [isV p0, isA c0, isA c1, isA c2, isA c3] (isV r) := by
  unfold M.f66 at h
  refine callS_of Tryz.func66 rfl Tryz.ntmps66 rfl fun F0 w0 a hS => ?_
  refine ws ?_
  refine st_reg mixed (by kernel_rfl) hS ?_
  refine cg (sp_box (od rfl)) ?_
  refine cg (sp_assign (odb)) ?_
  refine sn fun a w hS => ?_
  refine et ?_
  refine ws ?_
  obtain ⟨v_1, e_2, h⟩ := bind_some h
  obtain ⟨v_3, e_4, h⟩ := bind_some h
  obtain ⟨v_5, e_6, h⟩ := bind_some h
  obtain ⟨v_7, e_8, h⟩ := bind_some h
  obtain ⟨v_9, e_10, h⟩ := bind_some h
  obtain ⟨v_11, e_12, h⟩ := bind_some h
  obtain ⟨v_13, e_14, h⟩ := bind_some h
  obtain ⟨v_15, e_16, h⟩ := bind_some h
  refine st_reg mixed (by kernel_rfl) hS ?_
  refine cg (sp_load ty34 (od rfl)) ?_
  refine cg (sp_load ty3 (od rfl)) ?_
  refine cg (sp_call en33 (f33_ok e_2) ⟨od rfl, od rfl, trivial⟩) ?_
  refine cg (sp_call en34 (f34_ok e_4) ⟨od rfl, trivial⟩) ?_
  refine mv rfl ?_
  refine sc (sgT rfl fun hG => sp_load ty39 (od rfl)) ?_
  refine sc (sgT rfl fun hG => sp_load ty3 (od rfl)) ?_
  refine sc (sgT rfl fun hG => sp_indexAddr sl39 (odw rfl hG) (odw rfl hG) (guard_some e_6 hG)) ?_
  refine sc (sgT rfl fun hG => sp_load ty3 (odw rfl hG)) ?_
  refine sc (sgT rfl fun hG => sp_fieldAddr fd34_4 (od rfl)) ?_
  refine sc (sgT rfl fun hG => sp_load ty32 (odw rfl hG)) ?_
  refine sc (sgT rfl fun hG => sp_load ty3 (od rfl)) ?_
  refine sc (sgT rfl fun hG => sp_indexAddr sl32 (odw rfl hG) (odw rfl hG) (guard_some e_8 hG)) ?_
  refine sc (sgT rfl fun hG => sp_fieldAddr fd23_5 (odw rfl hG)) ?_
  refine sc (sgT rfl fun hG => sp_load ty3 (odw rfl hG)) ?_
  refine sc (sgT rfl fun hG => sp_gtr (odw rfl hG) (odw rfl hG)) ?_
  refine cg (sp_pickAnd (od rfl) fun hg => odw rfl hg) ?_
  refine mv rfl ?_
  refine sc (sgF rfl fun hG => sp_load ty34 (od rfl)) ?_
  refine sc (sgF rfl fun hG => sp_load ty3 (od rfl)) ?_
  refine sc (sgF rfl fun hG => sp_call en36 (f36_ok (guard_some e_10 hG)) ⟨odw rfl hG, odw rfl hG, trivial⟩) ?_
  refine sc (sgF rfl fun hG => sp_call en34 (f34_ok (guard_some e_12 hG)) ⟨odw rfl hG, trivial⟩) ?_
  refine sc (sgF rfl fun hG => sp_move (odw rfl hG)) ?_
  refine sc (sgwT rfl fun hG => sp_load ty39 (od rfl)) ?_
  refine sc (sgwT rfl fun hG => sp_load ty3 (od rfl)) ?_
  refine sc (sgwT rfl fun hG => sp_indexAddr sl39 (odw rfl hG) (odw rfl hG) (guard_some e_14 hG)) ?_
  refine sc (sgwT rfl fun hG => sp_load ty3 (odw rfl hG)) ?_
  refine sc (sgwT rfl fun hG => sp_load ty3 (od rfl)) ?_
  refine sc (sgwT rfl fun hG => sp_lss (odw rfl hG) (odw rfl hG)) ?_
  refine sc (sgF rfl fun hG => sp_pickAnd (odw rfl hG) fun hg => odw rfl (and_mk hG hg)) ?_
  refine cg (sp_pickOr (od rfl) fun hg => odw rfl (not_t hg)) ?_
  refine mv rfl ?_
  refine sc (sgF rfl fun hG => sp_load ty34 (od rfl)) ?_
  refine sc (sgF rfl fun hG => sp_load ty3 (od rfl)) ?_
  refine sc (sgF rfl fun hG => mk_fn87 (f := (fun x0 => M.f67 x0 c0 p0 c1)) (κs := [isA (α := S_api_Roster) c0, isA (α := Int) p0, isA (α := List Int) c1]) ⟨fun _ _ _ _ h => h, fun _ _ _ _ h => h, fun _ _ _ _ h => h, trivial⟩ en67 ⟨od rfl, od rfl, od rfl, trivial⟩ (fun _ _ h => f67_ok h)) ?_
  refine sc (sgF rfl fun hG => sp_call en62 (f62_ok (guard_some e_16 hG)) ⟨odw rfl hG, odw rfl hG, odw rfl hG, trivial⟩) ?_
  refine sc (sgF rfl fun hG => sp_len Tryz.underlying39 (odw rfl hG)) ?_
  refine sc (sgF rfl fun hG => sp_gtr (odw rfl hG) (odi)) ?_
  refine cg (sp_pickOr (od rfl) fun hg => odw rfl (not_t hg)) ?_
  refine cg (sp_assign (od rfl)) ?_
  refine sn fun a w hS => ?_
  refine et ?_
  refine wp_ret ?_
  cases h
  exact st_ret hS (run_results1 Tryz.results66 a w) (hS.get rfl)

theorem f24_ok {p0 : S_api_Roster} {p1 : Int} {p2 : Int} {p3 : List Int} {r : Int} (h : M.f24 p0 p1 p2 p3 = some r) : CallOK Tryz.prog 24 [isV p0, isV p1, isV p2, isV p3] (isV r) := by
  unfold M.f24 at h
  refine callS_of Tryz.func24 rfl Tryz.ntmps24 rfl fun F0 w0 a hS => ?_
  refine ws ?_
  refine st_reg mixed (by kernel_rfl) hS ?_
  refine cg (sp_box (od rfl)) ?_
  refine cg (sp_box (od rfl)) ?_
  refine cg (sp_box (od rfl)) ?_
  refine cg (sp_box (od rfl)) ?_
  refine cg (sp_assign (odi)) ?_
  refine sn fun a w hS => ?_
  refine et ?_
  refine ws ?_
  refine ws ?_
  obtain ⟨v_1, e_2, h⟩ := bind_some h
  refine st_reg mixed (by kernel_rfl) hS ?_
  refine cg (sp_load ty34 (od rfl)) ?_
  refine cg (sp_load ty3 (od rfl)) ?_
  refine cg (sp_call en40 (f40_ok e_2) ⟨od rfl, od rfl, trivial⟩) ?_
  refine cg (sp_assign (od rfl)) ?_
  refine sn fun a w hS => ?_
  refine et ?_
  refine ws ?_
  refine st_reg mixed (by kernel_rfl) hS ?_
  refine mv rfl ?_
  refine cg (sp_neq (od rfl) (odi)) ?_
  refine sn fun a w hS => ?_
  refine et ?_
  refine st_cond hS rfl (fun hb => ?_) (fun hb => ?_)
  · have h := ite_t hb h
    refine ws ?_
    refine st_reg mixed (by kernel_rfl) hS ?_
    refine mv rfl ?_
    refine cg (sp_assign (od rfl)) ?_
    refine sn fun a w hS => ?_
    refine et ?_
    refine wp_ret ?_
    refine exit_thenR ?_
    cases h
    exact st_ret hS (run_results1 Tryz.results24 a w) (hS.get rfl)
  have h := ite_f hb h
  refine wp_skip ?_
  refine et ?_
  refine ws ?_
  refine ws ?_
  obtain ⟨v_3, e_4, h⟩ := bind_some h
  obtain ⟨v_5, e_6, h⟩ := bind_some h
  refine st_reg mixed (by kernel_rfl) hS ?_
  refine cg (sp_load ty3 (od rfl)) ?_
  refine cg (sp_call en54 (f54_ok e_4) ⟨od rfl, odi, odi, trivial⟩) ?_
  refine cg (sp_not (od rfl)) ?_
  refine mv rfl ?_
  refine sc (sgF rfl fun hG => sp_load ty39 (od rfl)) ?_
  refine sc (sgF rfl fun hG => sp_len Tryz.underlying39 (odw rfl hG)) ?_
  refine sc (sgF rfl fun hG => sp_fieldAddr fd34_4 (od rfl)) ?_
  refine sc (sgF rfl fun hG => sp_load ty32 (odw rfl hG)) ?_
  refine sc (sgF rfl fun hG => sp_len Tryz.underlying32 (odw rfl hG)) ?_
  refine sc (sgF rfl fun hG => sp_neq (odw rfl hG) (odw rfl hG)) ?_
  refine cg (sp_pickOr (od rfl) fun hg => odw rfl (not_t hg)) ?_
  refine mv rfl ?_
  refine sc (sgF rfl fun hG => sp_load ty39 (od rfl)) ?_
  refine sc (sgF rfl fun hG => sp_call en55 (f55_ok (guard_some e_6 hG)) ⟨odw rfl hG, of_fn87 (f := (fun x0 => M.f65 x0)) en65 (fun _ _ h => f65_ok h), trivial⟩) ?_
  refine cg (sp_pickOr (od rfl) fun hg => odw rfl (not_t hg)) ?_
  refine sn fun a w hS => ?_
  refine et ?_
  refine st_cond hS rfl (fun hb => ?_) (fun hb => ?_)
  · have h := ite_t hb h
    refine ws ?_
    refine st_reg mixed (by kernel_rfl) hS ?_
    refine cg (sp_assign (odi)) ?_
    refine sn fun a w hS => ?_
    refine et ?_
    refine wp_ret ?_
    refine exit_thenR ?_
    cases h
    exact st_ret hS (run_results1 Tryz.results24 a w) (hS.get rfl)
  have h := ite_f hb h
  refine wp_skip ?_
  refine et ?_
  refine ws ?_
  obtain ⟨v_7, e_8, h⟩ := bind_some h
  refine st_reg mixed (by kernel_rfl) hS ?_
  refine cg (sp_load ty34 (od rfl)) ?_
  refine cg (sp_load ty3 (od rfl)) ?_
  refine cg (mk_fn87 (f := (fun x0 => M.f66 x0 p0 p3 p2 p1)) (κs := [isA (α := S_api_Roster) p0, isA (α := List Int) p3, isA (α := Int) p2, isA (α := Int) p1]) ⟨fun _ _ _ _ h => h, fun _ _ _ _ h => h, fun _ _ _ _ h => h, fun _ _ _ _ h => h, trivial⟩ en66 ⟨od rfl, od rfl, od rfl, od rfl, trivial⟩ (fun _ _ h => f66_ok h)) ?_
  refine cg (sp_call en62 (f62_ok e_8) ⟨od rfl, od rfl, od rfl, trivial⟩) ?_
  refine cg (sp_assign (od rfl)) ?_
  refine sn fun a w hS => ?_
  refine et ?_
  refine ws ?_
  refine ws ?_
  refine st_reg mixed (by kernel_rfl) hS ?_
  refine mv rfl ?_
  refine cg (sp_len Tryz.underlying39 (od rfl)) ?_
  refine cg (sp_gtr (od rfl) (odi)) ?_
  refine sn fun a w hS => ?_
  refine et ?_
  refine st_cond hS rfl (fun hb => ?_) (fun hb => ?_)
  · have h := ite_t hb h
    refine ws ?_
    refine st_reg mixed (by kernel_rfl) hS ?_
    refine cg (sp_assign (odi)) ?_
    refine sn fun a w hS => ?_
    refine et ?_
    refine wp_ret ?_
    refine exit_thenR ?_
    cases h
    exact st_ret hS (run_results1 Tryz.results24 a w) (hS.get rfl)
  have h := ite_f hb h
  refine wp_skip ?_
  refine et ?_
  refine ws ?_
  refine st_reg mixed (by kernel_rfl) hS ?_
  refine cg (sp_assign (odi)) ?_
  refine sn fun a w hS => ?_
  refine et ?_
  refine wp_ret ?_
  cases h
  exact st_ret hS (run_results1 Tryz.results24 a w) (hS.get rfl)

end Go.Proofs.YtnnhmgcigoiceaaGreatDoor
