/-
  What is proved: each Go function named here returns what its model tells, and changes nothing that was there; where the model tells something.
-/
import Derived.Test.YtkbilbeaedocjaaWalkK0
import Derived.Test.YtkbilbeaedocjaaWalkP
import Derived.Test.YtkbilbeaedocjaaWalkS
import Derived.Test.YtkbilbeaedocjaaModelM
set_option linter.unusedVariables false
set_option maxRecDepth 100000
namespace Go.Proofs.Ytkbilbeaedocjaa
open Go Go.RowKit Go.Proofs.Ytkbilbeaedocjaa.Wh

theorem f67_ok {p0 : S_api_Offer} {c0 : List Int} {c1 : Int} {c2 : List Int} {b1 : Nat} {r : S_api_Span × Int} (h : M.f67 p0 c0 c1 c2 = some r) : CallF Try.prog 67 [Item.box (α := Int) 3 b1 c1] [isV p0, isA (α := List Int) c0, Pr.ptr b1, isA (α := List Int) c2] ⟨Unit, fun x_ => [Item.box (α := Int) 3 b1 r.2], fun _ => isV (α := S_api_Span) r.1⟩ := by
  unfold M.f67 at h
  refine callF_of Try.func67 rfl Try.ntmps67 rfl fun F0 fr w0 w c0_ a hS => ?_
  refine ws ?_
  refine l_start ?_
  refine s_c hS (sg (sp_box (od rfl))) rfl fun a w hS hM => ?_
  refine s_alloc zi82 hS rfl fun a w b_1 hS hM => ?_
  have hS := st_rot 1 hS rfl
  have hS : St _ F0 (Item.box (α := Int) 3 b1 c1 :: Item.box (α := S_api_Span) 82 b_1 ((0, 0) : S_api_Span) :: fr) _ w0 _ _ := hS
  refine l_end ?_
  refine et ?_
  refine ws ?_
  have hS := st_box 0 2 hS rfl rfl
  obtain ⟨v_2, e_3, h⟩ := bind_some h
  obtain ⟨v_4, e_5, h⟩ := bind_some h
  refine st_reg mixed (by kernel_rfl) hS ?_
  refine cg (sp_load ty27 (od rfl)) ?_
  refine cg (sp_loadB ty3 (odB rfl)) ?_
  refine cg (sp_load ty27 (od rfl)) ?_
  refine cg (sp_len Try.underlying27 (od rfl)) ?_
  refine cg (sp_rem (od rfl) (od rfl) e_3) ?_
  refine cg (sp_indexAddr sl27 (od rfl) (od rfl) e_5) ?_
  refine cg (sp_load ty3 (od rfl)) ?_
  refine cg (sp_max (od rfl) (odi)) ?_
  refine cg (sp_fieldAddr fd59_3 (od rfl)) ?_
  refine cg (sp_load ty3 (od rfl)) ?_
  refine cg (sp_min (od rfl) (od rfl)) ?_
  refine cg (sp_assign (od rfl)) ?_
  refine sn fun a w hS => ?_
  refine et ?_
  refine ws ?_
  refine l_start ?_
  refine s_c hS (sg (sp_loadB ty3 (odB rfl))) rfl fun a w hS hM => ?_
  refine s_c hS (sg (sp_add (od rfl) (odi))) rfl fun a w hS hM => ?_
  refine s_storeB (k := 0) (Δ := [(2, Pr.ptr b1), (3, isA (α := List Int) c2), (4, isA (α := S_api_Offer) p0), (5, Pr.ptr b_1), (6, isV (α := Int) (imin (imax v_4 0) p0.2.2.2)), (20, isV (α := Int) (wr (c1 + 1))), (1000000, Pr.seen c0_)]) ty3 hS rfl ⟨odBx rfl, od rfl, od rfl, od rfl, od rfl, od rfl, od rfl, trivial⟩ ⟨fun _ _ _ _ h => h, fun _ _ _ _ h => h, fun _ _ _ _ h => h, fun _ _ _ _ h => h, fun _ _ _ _ h => h, fun _ _ _ _ h => h, fun _ _ _ _ h => h, trivial⟩ rfl (od rfl) fun w hS hM => ?_
  have hS : St _ F0 (Item.box (α := Int) 3 b1 (wr (c1 + 1)) :: Item.box (α := S_api_Span) 82 b_1 ((0, 0) : S_api_Span) :: fr) _ w0 _ _ := hS
  refine l_end ?_
  refine et ?_
  refine ws ?_
  obtain ⟨v_6, e_7, h⟩ := bind_some h
  obtain ⟨v_8, e_9, h⟩ := bind_some h
  refine st_reg mixed (by kernel_rfl) hS ?_
  refine cg (sp_load ty27 (od rfl)) ?_
  refine cg (sp_fieldAddr fd59_1 (od rfl)) ?_
  refine cg (sp_load ty3 (od rfl)) ?_
  refine cg (sp_indexAddr sl27 (od rfl) (od rfl) e_7) ?_
  refine cg (sp_load ty3 (od rfl)) ?_
  refine cg (sp_load ty27 (od rfl)) ?_
  refine cg (sp_fieldAddr fd59_0 (od rfl)) ?_
  refine cg (sp_load ty3 (od rfl)) ?_
  refine cg (sp_indexAddr sl27 (od rfl) (od rfl) e_9) ?_
  refine cg (sp_load ty3 (od rfl)) ?_
  refine cg (sp_sub (od rfl) (od rfl)) ?_
  refine mv rfl ?_
  refine cg (sp_sub (od rfl) (od rfl)) ?_
  refine cg (sp_assign (od rfl)) ?_
  refine sn fun a w hS => ?_
  refine et ?_
  refine ws ?_
  refine l_start ?_
  refine s_c hS (sg (sp_move (od rfl))) rfl fun a w hS hM => ?_
  refine s_c hS (sg (sp_move (od rfl))) rfl fun a w hS hM => ?_
  refine s_c hS (sg (sp_fieldAddr fd59_3 (od rfl))) rfl fun a w hS hM => ?_
  refine s_c hS (sg (sp_load ty3 (od rfl))) rfl fun a w hS hM => ?_
  refine s_c hS (sg (sp_add (od rfl) (od rfl))) rfl fun a w hS hM => ?_
  refine s_c hS (sg (bd82_01 (od rfl) (od rfl))) rfl fun a w hS hM => ?_
  refine s_storeB (k := 1) (Δ := [(2, Pr.ptr b1), (5, Pr.ptr b_1), (39, isV (α := S_api_Span) (((wr ((wr (v_6 - v_8)) - (imin (imax v_4 0) p0.2.2.2))), (wr ((wr ((wr (v_6 - v_8)) - (imin (imax v_4 0) p0.2.2.2))) + p0.2.2.2))) : S_api_Span)), (1000000, Pr.seen c0_)]) ty82 hS rfl ⟨od rfl, od rfl, od rfl, od rfl, trivial⟩ ⟨fun _ _ _ _ h => h, fun _ _ _ _ h => h, fun _ _ _ _ h => h, fun _ _ _ _ h => h, trivial⟩ rfl (od rfl) fun w hS hM => ?_
  have hS : St _ F0 (Item.box (α := Int) 3 b1 (wr (c1 + 1)) :: Item.box (α := S_api_Span) 82 b_1 (((wr ((wr (v_6 - v_8)) - (imin (imax v_4 0) p0.2.2.2))), (wr ((wr ((wr (v_6 - v_8)) - (imin (imax v_4 0) p0.2.2.2))) + p0.2.2.2))) : S_api_Span) :: fr) _ w0 _ _ := hS
  have hS := st_freezeB 1 5 hS rfl rfl
  refine l_end ?_
  refine et ?_
  refine wp_ret ?_
  have hS : St _ F0 (Item.box (α := Int) 3 b1 (wr (c1 + 1)) :: fr) _ w0 _ _ := hS
  cases h
  obtain ⟨v, hr, hv⟩ := run_resC1 Try.results67 ty82 (hS.at_.sat 5 _ rfl)
  exact st_retF (ρ := ⟨Unit, fun x_ => [Item.box (α := Int) 3 b1 (((((wr ((wr (v_6 - v_8)) - (imin (imax v_4 0) p0.2.2.2))), (wr ((wr ((wr (v_6 - v_8)) - (imin (imax v_4 0) p0.2.2.2))) + p0.2.2.2))) : S_api_Span), (wr (c1 + 1))).2)], fun _ => isV (α := S_api_Span) (((((wr ((wr (v_6 - v_8)) - (imin (imax v_4 0) p0.2.2.2))), (wr ((wr ((wr (v_6 - v_8)) - (imin (imax v_4 0) p0.2.2.2))) + p0.2.2.2))) : S_api_Span), (wr (c1 + 1))).1)⟩) () hS hr rfl hv

theorem f15_ok {fuel : Nat} {p0 : S_api_Market} {p1 : List Int} {p2 : List Int} {p3 : List Int} {p4 : Int} {p5 : Int} {p6 : List Int} {p7 : Int} {r : Bool} (h : M.f15 fuel p0 p1 p2 p3 p4 p5 p6 p7 = some r) : CallOK Try.prog 15 [isV p0, isV p1, isV p2, isV p3, isV p4, isV p5, isV p6, isV p7] (isV r) := by
  unfold M.f15 at h
  refine callS_of Try.func15 rfl Try.ntmps15 rfl fun F0 w0 a hS => ?_
  refine ws ?_
  refine st_reg mixed (by kernel_rfl) hS ?_
  refine cg (sp_box (od rfl)) ?_
  refine cg (sp_box (od rfl)) ?_
  refine cg (sp_box (od rfl)) ?_
  refine cg (sp_assign (odb)) ?_
  refine sn fun a w hS => ?_
  refine et ?_
  refine ws ?_
  refine ws ?_
  obtain ⟨v_1, e_2, h⟩ := bind_some h
  refine st_reg mixed (by kernel_rfl) hS ?_
  refine cg (sp_call en16 (f16_ok e_2) trivial) ?_
  refine cg (sp_not (od rfl)) ?_
  refine sn fun a w hS => ?_
  refine et ?_
  refine st_cond hS rfl (fun hb => ?_) (fun hb => ?_)
  · have h := ite_t hb h
    refine ws ?_
    refine st_reg mixed (by kernel_rfl) hS ?_
    refine cg (sp_assign (odb)) ?_
    refine sn fun a w hS => ?_
    refine et ?_
    refine wp_ret ?_
    refine exit_thenR ?_
    cases h
    exact st_ret hS (run_results1 Try.results15 a w) (hS.get rfl)
  have h := ite_f hb h
  refine wp_skip ?_
  refine et ?_
  refine ws ?_
  refine ws ?_
  obtain ⟨v_3, e_4, h⟩ := bind_some h
  obtain ⟨v_5, e_6, h⟩ := bind_some h
  refine st_reg mixed (by kernel_rfl) hS ?_
  refine cg (sp_load ty24 (od rfl)) ?_
  refine mv rfl ?_
  refine mv rfl ?_
  refine mv rfl ?_
  refine cg (sp_buildSlice [.tmp 46, .tmp 47] ([p4, p5] : List Int) sl27 ze3 rfl rfl rfl rfl ⟨od rfl, od rfl, trivial⟩) ?_
  refine cg (sp_call en31 (f31_ok e_4) ⟨od rfl, od rfl, od rfl, trivial⟩) ?_
  refine cg (sp_not (od rfl)) ?_
  refine mv rfl ?_
  refine sc (sgF rfl fun hG => sp_load ty27 (od rfl)) ?_
  refine sc (sgF rfl fun hG => sp_len Try.underlying27 (odw rfl hG)) ?_
  refine sc (sgF rfl fun hG => sp_fieldAddr fd24_0 (od rfl)) ?_
  refine sc (sgF rfl fun hG => sp_load ty3 (odw rfl hG)) ?_
  refine sc (sgF rfl fun hG => sp_lss (odw rfl hG) (odw rfl hG)) ?_
  refine cg (sp_pickOr (od rfl) fun hg => odw rfl (not_t hg)) ?_
  refine mv rfl ?_
  refine sc (sgF rfl fun hG => sp_load ty27 (od rfl)) ?_
  refine sc (sgF rfl fun hG => sp_len Try.underlying27 (odw rfl hG)) ?_
  refine sc (sgF rfl fun hG => sp_gtr (odw rfl hG) (odi)) ?_
  refine cg (sp_pickOr (od rfl) fun hg => odw rfl (not_t hg)) ?_
  refine mv rfl ?_
  refine sc (sgF rfl fun hG => sp_load ty27 (od rfl)) ?_
  refine sc (sgF rfl fun hG => sp_len Try.underlying27 (odw rfl hG)) ?_
  refine sc (sgF rfl fun hG => sp_eql (odw rfl hG) (odi)) ?_
  refine cg (sp_pickOr (od rfl) fun hg => odw rfl (not_t hg)) ?_
  refine mv rfl ?_
  refine sc (sgF rfl fun hG => sp_load ty27 (od rfl)) ?_
  refine sc (sgF rfl fun hG => sp_len Try.underlying27 (odw rfl hG)) ?_
  refine sc (sgF rfl fun hG => sp_gtr (odw rfl hG) (odi)) ?_
  refine cg (sp_pickOr (od rfl) fun hg => odw rfl (not_t hg)) ?_
  refine mv rfl ?_
  refine sc (sgF rfl fun hG => sp_move (od rfl)) ?_
  refine sc (sgF rfl fun hG => sp_buildSlice [.tmp 74] ([p6] : List (List Int)) sl75 ze27 rfl rfl rfl rfl ⟨odw rfl hG, trivial⟩) ?_
  refine sc (sgF rfl fun hG => sp_call en55 (f55_ok (guard_some e_6 hG)) ⟨odw rfl hG, trivial⟩) ?_
  refine sc (sgF rfl fun hG => sp_not (odw rfl hG)) ?_
  refine cg (sp_pickOr (od rfl) fun hg => odw rfl (not_t hg)) ?_
  refine sn fun a w hS => ?_
  refine et ?_
  refine st_cond hS rfl (fun hb => ?_) (fun hb => ?_)
  · have h := ite_t hb h
    refine ws ?_
    refine st_reg mixed (by kernel_rfl) hS ?_
    refine cg (sp_assign (odb)) ?_
    refine sn fun a w hS => ?_
    refine et ?_
    refine wp_ret ?_
    refine exit_thenR ?_
    cases h
    exact st_ret hS (run_results1 Try.results15 a w) (hS.get rfl)
  have h := ite_f hb h
  refine wp_skip ?_
  refine et ?_
  refine ws ?_
  refine ws ?_
  refine st_reg mixed (by kernel_rfl) hS ?_
  refine cg (sp_load ty27 (od rfl)) ?_
  refine cg (sp_len Try.underlying27 (od rfl)) ?_
  refine cg (sp_move (odi)) ?_
  refine sn fun a w hS => ?_
  refine et ?_
  refine wp_block ?_
  obtain ⟨o_10, e_11, hr_12⟩ := bind_some h
  refine c_loop (fun K a w => ∃ k i_7 s_9, K = k + 1 ∧ ForI _ _ _ o_10 k i_7 s_9 ∧ St 289 F0 [] [(1, isV (α := List Int) p1), (4, isV (α := Int) p4), (5, isV (α := Int) p5), (6, isV (α := List Int) p6), (7, isV (α := Int) p7), (8, isA (α := S_api_Market) p0), (10, isA (α := List Int) p2), (11, isA (α := List Int) p3), (79, isV (α := List Int) p2), (80, isV (α := Int) (p2.length : Int)), (81, isV (α := Int) i_7)] w0 a w) ?_ ?_ ⟨_, _, _, rfl, for_init e_11, hS.weak ⟨od rfl, od rfl, od rfl, od rfl, od rfl, od rfl, od rfl, od rfl, od rfl, od rfl, od rfl, trivial⟩⟩
  · rintro a w ⟨_, _, _, hk, _⟩; cases hk
  rintro K a w ⟨k_10, i_7, s_9, hk, hF_10, hS⟩
  obtain rfl := Nat.succ.inj hk
  refine ws ?_
  refine st_reg mixed (by kernel_rfl) hS ?_
  refine cg (sp_lss (od rfl) (od rfl)) ?_
  refine sn fun a w hS => ?_
  refine et ?_
  refine ws ?_
  refine st_cond hS rfl (fun hb => ?_) (fun hb => ?_)
  · refine wp_skip ?_
    refine et ?_
    obtain ⟨k_10, o, rfl, h, hN_10, hL_10, hw_10⟩ := for_more hF_10 hb
    refine ws ?_
    refine wp_block ?_
    refine ws ?_
    obtain ⟨v_13, e_14, h⟩ := bind_some h
    refine st_reg mixed (by kernel_rfl) hS ?_
    refine cg (sp_indexAddr sl27 (od rfl) (od rfl) e_14) ?_
    refine cg (sp_load ty3 (od rfl)) ?_
    refine cg (sp_assign (od rfl)) ?_
    refine sn fun a w hS => ?_
    refine et ?_
    refine ws ?_
    refine st_reg mixed (by kernel_rfl) hS ?_
    refine mv rfl ?_
    refine cg (sp_lss (od rfl) (odi)) ?_
    refine mv rfl ?_
    refine sc (sgF rfl fun hG => sp_move (od rfl)) ?_
    refine sc (sgF rfl fun hG => sp_gtr (odw rfl hG) (odi)) ?_
    refine cg (sp_pickOr (od rfl) fun hg => odw rfl (not_t hg)) ?_
    refine sn fun a w hS => ?_
    refine et ?_
    refine st_cond hS rfl (fun hb => ?_) (fun hb => ?_)
    · have h := ite_t hb h
      refine ws ?_
      refine st_reg mixed (by kernel_rfl) hS ?_
      refine cg (sp_assign (odb)) ?_
      refine sn fun a w hS => ?_
      refine et ?_
      refine wp_ret ?_
      refine exit_blockR ?_
      refine exit_thenR ?_
      cases h
      obtain rfl := hL_10 _ rfl
      have h := (elim_leave hr_12)
      refine exit_thenR ?_
      refine exit_blockR ?_
      refine exit_thenR ?_
      cases h
      exact st_ret hS (run_results1 Try.results15 a w) (hS.get rfl)
    have h := ite_f hb h
    refine wp_skip ?_
    refine exit_block ?_
    refine et ?_
    refine st_reg mixed (by kernel_rfl) hS ?_
    refine cg (sp_add (od rfl) (odi)) ?_
    refine mv rfl ?_
    refine sn fun a w hS => ?_
    cases h
    exact ⟨k_10, _, _, rfl, hN_10 _ rfl, hS.weak ⟨od rfl, od rfl, od rfl, od rfl, od rfl, od rfl, od rfl, od rfl, od rfl, od rfl, od (congrArg (fun z => some (isV (α := Int) z)) hw_10), trivial⟩⟩
  refine wp_exit ?_
  obtain rfl := for_done hF_10 hb
  have h := elim_again hr_12
  refine exit_thenE ?_
  refine exit_thenE ?_
  refine exit_here ?_
  refine et ?_
  refine ws ?_
  refine l_start ?_
  refine s_alloc zi3 hS rfl fun a w b_15 hS hM => ?_
  have hS : St _ F0 [Item.box (α := Int) 3 b_15 (0 : Int)] _ w0 _ _ := hS
  refine s_storeB (k := 0) (Δ := [(1, isV (α := List Int) p1), (4, isV (α := Int) p4), (5, isV (α := Int) p5), (6, isV (α := List Int) p6), (7, isV (α := Int) p7), (8, isA (α := S_api_Market) p0), (10, isA (α := List Int) p2), (11, isA (α := List Int) p3), (19, Pr.ptr b_15)]) ty3 hS rfl ⟨od rfl, od rfl, od rfl, od rfl, od rfl, od rfl, od rfl, od rfl, od rfl, trivial⟩ ⟨fun _ _ _ _ h => h, fun _ _ _ _ h => h, fun _ _ _ _ h => h, fun _ _ _ _ h => h, fun _ _ _ _ h => h, fun _ _ _ _ h => h, fun _ _ _ _ h => h, fun _ _ _ _ h => h, fun _ _ _ _ h => h, trivial⟩ rfl (odi) fun w hS hM => ?_
  have hS : St _ F0 [Item.box (α := Int) 3 b_15 (0 : Int)] _ w0 _ _ := hS
  refine l_end ?_
  refine et ?_
  refine ws ?_
  refine st_reg mixed (by kernel_rfl) hS ?_
  refine cg (sp_makeClo (κs := [isA (α := List Int) p3, Pr.ptr b_15, isA (α := List Int) p2]) ⟨fun _ _ _ _ h => h, fun _ _ _ _ h => h, fun _ _ _ _ h => h, trivial⟩ ⟨od rfl, (od rfl), od rfl, trivial⟩) ?_
  refine cg (sp_assign (od rfl)) ?_
  refine sn fun a w hS => ?_
  refine et ?_
  refine ws ?_
  refine st_reg mixed (by kernel_rfl) hS ?_
  refine cg (sp_assign (φ := Pr.is (.slice none 0 0)) (odc fun _ => rfl)) ?_
  refine cg (sp_assign (φ := Pr.is (.slice none 0 0)) (odc fun _ => rfl)) ?_
  refine sn fun a w hS => ?_
  have hS := st_nil (α := S_api_Span) 82 hS
  have hS : St _ F0 [Item.box (α := Int) 3 b_15 (0 : Int), Item.sl (α := S_api_Span) 82 (.slice none 0 0) ([] : List S_api_Span)] _ w0 _ _ := hS
  have hS := st_nil (α := S_api_Span) 82 hS
  have hS : St _ F0 [Item.box (α := Int) 3 b_15 (0 : Int), Item.sl (α := S_api_Span) 82 (.slice none 0 0) ([] : List S_api_Span), Item.sl (α := S_api_Span) 82 (.slice none 0 0) ([] : List S_api_Span)] _ w0 _ _ := hS
  refine et ?_
  refine ws ?_
  refine ws ?_
  refine st_reg mixed (by kernel_rfl) hS ?_
  refine cg (sp_fieldAddr fd24_1 (od rfl)) ?_
  refine cg (sp_load ty22 (od rfl)) ?_
  refine cg (sp_len Try.underlying22 (od rfl)) ?_
  refine cg (sp_move (odi)) ?_
  refine sn fun a w hS => ?_
  refine et ?_
  refine wp_block ?_
  obtain ⟨o_19, e_20, hr_21⟩ := bind_some h
  refine c_loop (fun K a w => ∃ k i_16 s_18, ∃ u_22 : Value, K = k + 1 ∧ ForT _ _ _ o_19 k i_16 s_18 ∧ St 289 F0 [Item.box (α := Int) 3 b_15 s_18.1, Item.sl (α := S_api_Span) 82 u_22 s_18.2, Item.sl (α := S_api_Span) 82 (.slice none 0 0) ([] : List S_api_Span)] [(1, isV (α := List Int) p1), (4, isV (α := Int) p4), (5, isV (α := Int) p5), (6, isV (α := List Int) p6), (7, isV (α := Int) p7), (8, isA (α := S_api_Market) p0), (10, isA (α := List Int) p2), (20, Pr.clo 67 [isA (α := List Int) p3, Pr.ptr b_15, isA (α := List Int) p2]), (21, Pr.is u_22), (22, Pr.is (.slice none 0 0)), (94, isV (α := List S_api_Offer) p0.2.1), (95, isV (α := Int) (p0.2.1.length : Int)), (96, isV (α := Int) i_16)] w0 a w) ?_ ?_ ⟨_, _, _, (.slice none 0 0), rfl, fors_init e_20, hS.weak ⟨od rfl, od rfl, od rfl, od rfl, od rfl, od rfl, od rfl, od rfl, od rfl, od rfl, od rfl, od rfl, od rfl, trivial⟩⟩
  · rintro a w ⟨_, _, _, _, hk, _⟩; cases hk
  rintro K a w ⟨k_19, i_16, s_18, u_22, hk, hF_19, hS⟩
  obtain rfl := Nat.succ.inj hk
  refine ws ?_
  refine st_reg mixed (by kernel_rfl) hS ?_
  refine cg (sp_lss (od rfl) (od rfl)) ?_
  refine sn fun a w hS => ?_
  refine et ?_
  refine ws ?_
  refine st_cond hS rfl (fun hb => ?_) (fun hb => ?_)
  · refine wp_skip ?_
    refine et ?_
    obtain ⟨k_19, s', rfl, h, hF_19, hw_19⟩ := fors_more hF_19 hb
    refine ws ?_
    refine wp_block ?_
    refine ws ?_
    obtain ⟨v_23, e_24, h⟩ := bind_some h
    refine l_start ?_
    refine s_c hS (sg (sp_indexAddr sl22 (od rfl) (od rfl) e_24)) rfl fun a w hS hM => ?_
    refine s_c hS (sg (sp_load ty59 (od rfl))) rfl fun a w hS hM => ?_
    refine s_allocStore ze59 hS (od rfl) (fun k hk => by cases hk; rfl) rfl fun a w hS hM => ?_
    refine l_end ?_
    refine et ?_
    obtain ⟨z_25, e_26, h⟩ := bind_some h
    obtain ⟨z_28, e_29, h⟩ := bind_some h
    refine l_start ?_
    refine s_c hS (sg (sp_move (od rfl))) rfl fun a w hS hM => ?_
    refine s_c hS (sg (sp_move (od rfl))) rfl fun a w hS hM => ?_
    refine s_c hS (sg (sp_load ty59 (od rfl))) rfl fun a w hS hM => ?_
    have hS : St _ F0 [Item.box (α := Int) 3 b_15 s_18.1, Item.sl (α := S_api_Span) 82 u_22 s_18.2, Item.sl (α := S_api_Span) 82 (.slice none 0 0) ([] : List S_api_Span)] _ w0 _ _ := hS
    refine s_callF (φs := [isV (α := S_api_Offer) v_23]) (κs := [isA (α := List Int) p3, Pr.ptr b_15, isA (α := List Int) p2]) (js1 := [Item.box (α := Int) 3 b_15 s_18.1]) (fr := [Item.sl (α := S_api_Span) 82 u_22 s_18.2, Item.sl (α := S_api_Span) 82 (.slice none 0 0) ([] : List S_api_Span)]) (Δ := [(1, isV (α := List Int) p1), (4, isV (α := Int) p4), (5, isV (α := Int) p5), (6, isV (α := List Int) p6), (7, isV (α := Int) p7), (8, isA (α := S_api_Market) p0), (10, isA (α := List Int) p2), (20, Pr.clo 67 [isA (α := List Int) p3, Pr.ptr b_15, isA (α := List Int) p2]), (22, Pr.is (.slice none 0 0)), (94, isV (α := List S_api_Offer) p0.2.1), (95, isV (α := Int) (p0.2.1.length : Int)), (96, isV (α := Int) i_16), (100, Pr.is u_22), (101, Pr.clo 67 [isA (α := List Int) p3, Pr.ptr b_15, isA (α := List Int) p2]), (102, isV (α := S_api_Offer) v_23)]) en67 (f67_ok e_26) hS ⟨od rfl, od rfl, od rfl, od rfl, od rfl, od rfl, od rfl, od rfl, od rfl, od rfl, od rfl, od rfl, od rfl, od rfl, od rfl, trivial⟩ ⟨fun _ _ _ _ h => h, fun _ _ _ _ h => h, fun _ _ _ _ h => h, fun _ _ _ _ h => h, fun _ _ _ _ h => h, fun _ _ _ _ h => h, fun _ _ _ _ h => h, fun _ _ _ _ h => h, fun _ _ _ _ h => h, fun _ _ _ _ h => h, fun _ _ _ _ h => h, fun _ _ _ _ h => h, fun _ _ _ _ h => h, fun _ _ _ _ h => h, fun _ _ _ _ h => h, trivial⟩ (od rfl) ⟨od rfl, trivial⟩ rfl fun a w x_27 hS hM => ?_
    have hS : St _ F0 [Item.box (α := Int) 3 b_15 z_25.2, Item.sl (α := S_api_Span) 82 u_22 s_18.2, Item.sl (α := S_api_Span) 82 (.slice none 0 0) ([] : List S_api_Span)] _ w0 _ _ := hS
    refine s_c hS (sg (sp_buildSlice [.tmp 103] ([z_25.1] : List S_api_Span) sl80 ze82 rfl rfl rfl rfl ⟨od rfl, trivial⟩)) rfl fun a w hS hM => ?_
    refine s_append (k := 1) (Δ := [(1, isV (α := List Int) p1), (4, isV (α := Int) p4), (5, isV (α := Int) p5), (6, isV (α := List Int) p6), (7, isV (α := Int) p7), (8, isA (α := S_api_Market) p0), (10, isA (α := List Int) p2), (20, Pr.clo 67 [isA (α := List Int) p3, Pr.ptr b_15, isA (α := List Int) p2]), (22, Pr.is (.slice none 0 0)), (94, isV (α := List S_api_Offer) p0.2.1), (95, isV (α := Int) (p0.2.1.length : Int)), (96, isV (α := Int) i_16), (100, Pr.is u_22), (104, isV (α := List S_api_Span) ([z_25.1] : List S_api_Span))]) sl80 ze82 hS rfl ⟨od rfl, od rfl, od rfl, od rfl, od rfl, od rfl, od rfl, od rfl, od rfl, od rfl, od rfl, od rfl, od rfl, od rfl, trivial⟩ ⟨fun _ _ _ _ h => h, fun _ _ _ _ h => h, fun _ _ _ _ h => h, fun _ _ _ _ h => h, fun _ _ _ _ h => h, fun _ _ _ _ h => h, fun _ _ _ _ h => h, fun _ _ _ _ h => h, fun _ _ _ _ h => h, fun _ _ _ _ h => h, fun _ _ _ _ h => h, fun _ _ _ _ h => h, fun _ _ _ _ h => h, fun _ _ _ _ h => h, trivial⟩ (od rfl) (od rfl) e_29 rfl fun a w u_30 hS hM => ?_
    have hS : St _ F0 [Item.box (α := Int) 3 b_15 z_25.2, Item.sl (α := S_api_Span) 82 u_30 z_28, Item.sl (α := S_api_Span) 82 (.slice none 0 0) ([] : List S_api_Span)] _ w0 _ _ := hS
    refine s_c hS (sg (sp_assign (od rfl))) rfl fun a w hS hM => ?_
    refine l_end ?_
    refine exit_block ?_
    refine et ?_
    refine st_reg mixed (by kernel_rfl) hS ?_
    refine cg (sp_add (od rfl) (odi)) ?_
    refine mv rfl ?_
    refine sn fun a w hS => ?_
    cases h
    exact ⟨k_19, _, _, u_30, rfl, hF_19, hS.weak ⟨od rfl, od rfl, od rfl, od rfl, od rfl, od rfl, od rfl, od rfl, od rfl, od rfl, od rfl, od rfl, od (congrArg (fun z => some (isV (α := Int) z)) hw_19), trivial⟩⟩
  refine wp_exit ?_
  obtain rfl := (fors_done hF_19 hb).symm
  have h := hr_21
  refine exit_thenE ?_
  refine exit_thenE ?_
  refine exit_here ?_
  refine et ?_
  refine ws ?_
  refine ws ?_
  refine st_reg mixed (by kernel_rfl) hS ?_
  refine mv rfl ?_
  refine cg (sp_len Try.underlying27 (od rfl)) ?_
  refine cg (sp_move (odi)) ?_
  refine sn fun a w hS => ?_
  refine et ?_
  refine wp_block ?_
  obtain ⟨o_34, e_35, hr_36⟩ := bind_some h
  refine c_loop (fun K a w => ∃ k i_31 s_33, ∃ u_37 : Value, K = k + 1 ∧ ForT _ _ _ o_34 k i_31 s_33 ∧ St 289 F0 [Item.box (α := Int) 3 b_15 s_33.1, Item.sl (α := S_api_Span) 82 u_22 s_18.2, Item.sl (α := S_api_Span) 82 u_37 s_33.2] [(1, isV (α := List Int) p1), (4, isV (α := Int) p4), (5, isV (α := Int) p5), (6, isV (α := List Int) p6), (7, isV (α := Int) p7), (8, isA (α := S_api_Market) p0), (10, isA (α := List Int) p2), (20, Pr.clo 67 [isA (α := List Int) p3, Pr.ptr b_15, isA (α := List Int) p2]), (21, Pr.is u_22), (22, Pr.is u_37), (107, isV (α := List Int) p1), (108, isV (α := Int) (p1.length : Int)), (109, isV (α := Int) i_31)] w0 a w) ?_ ?_ ⟨_, _, _, (.slice none 0 0), rfl, fors_init e_35, hS.weak ⟨od rfl, od rfl, od rfl, od rfl, od rfl, od rfl, od rfl, od rfl, od rfl, od rfl, od rfl, od rfl, od rfl, trivial⟩⟩
  · rintro a w ⟨_, _, _, _, hk, _⟩; cases hk
  rintro K a w ⟨k_34, i_31, s_33, u_37, hk, hF_34, hS⟩
  obtain rfl := Nat.succ.inj hk
  refine ws ?_
  refine st_reg mixed (by kernel_rfl) hS ?_
  refine cg (sp_lss (od rfl) (od rfl)) ?_
  refine sn fun a w hS => ?_
  refine et ?_
  refine ws ?_
  refine st_cond hS rfl (fun hb => ?_) (fun hb => ?_)
  · refine wp_skip ?_
    refine et ?_
    obtain ⟨k_34, s', rfl, h, hF_34, hw_34⟩ := fors_more hF_34 hb
    refine ws ?_
    refine wp_block ?_
    refine ws ?_
    obtain ⟨v_38, e_39, h⟩ := bind_some h
    refine st_reg mixed (by kernel_rfl) hS ?_
    refine cg (sp_indexAddr sl27 (od rfl) (od rfl) e_39) ?_
    refine cg (sp_load ty3 (od rfl)) ?_
    refine cg (sp_assign (od rfl)) ?_
    refine sn fun a w hS => ?_
    refine et ?_
    obtain ⟨v_40, e_41, h⟩ := bind_some h
    obtain ⟨z_42, e_43, h⟩ := bind_some h
    obtain ⟨z_45, e_46, h⟩ := bind_some h
    refine l_start ?_
    refine s_c hS (sg (sp_move (od rfl))) rfl fun a w hS hM => ?_
    refine s_c hS (sg (sp_move (od rfl))) rfl fun a w hS hM => ?_
    refine s_c hS (sg (sp_fieldAddr fd24_2 (od rfl))) rfl fun a w hS hM => ?_
    refine s_c hS (sg (sp_load ty22 (od rfl))) rfl fun a w hS hM => ?_
    refine s_c hS (sg (sp_move (od rfl))) rfl fun a w hS hM => ?_
    refine s_c hS (sg (sp_indexAddr sl22 (od rfl) (od rfl) e_41)) rfl fun a w hS hM => ?_
    refine s_c hS (sg (sp_load ty59 (od rfl))) rfl fun a w hS hM => ?_
    have hS : St _ F0 [Item.box (α := Int) 3 b_15 s_33.1, Item.sl (α := S_api_Span) 82 u_22 s_18.2, Item.sl (α := S_api_Span) 82 u_37 s_33.2] _ w0 _ _ := hS
    refine s_callF (φs := [isV (α := S_api_Offer) v_40]) (κs := [isA (α := List Int) p3, Pr.ptr b_15, isA (α := List Int) p2]) (js1 := [Item.box (α := Int) 3 b_15 s_33.1]) (fr := [Item.sl (α := S_api_Span) 82 u_22 s_18.2, Item.sl (α := S_api_Span) 82 u_37 s_33.2]) (Δ := [(1, isV (α := List Int) p1), (4, isV (α := Int) p4), (5, isV (α := Int) p5), (6, isV (α := List Int) p6), (7, isV (α := Int) p7), (8, isA (α := S_api_Market) p0), (10, isA (α := List Int) p2), (20, Pr.clo 67 [isA (α := List Int) p3, Pr.ptr b_15, isA (α := List Int) p2]), (21, Pr.is u_22), (107, isV (α := List Int) p1), (108, isV (α := Int) (p1.length : Int)), (109, isV (α := Int) i_31), (113, Pr.is u_37), (114, Pr.clo 67 [isA (α := List Int) p3, Pr.ptr b_15, isA (α := List Int) p2]), (119, isV (α := S_api_Offer) v_40)]) en67 (f67_ok e_43) hS ⟨od rfl, od rfl, od rfl, od rfl, od rfl, od rfl, od rfl, od rfl, od rfl, od rfl, od rfl, od rfl, od rfl, od rfl, od rfl, trivial⟩ ⟨fun _ _ _ _ h => h, fun _ _ _ _ h => h, fun _ _ _ _ h => h, fun _ _ _ _ h => h, fun _ _ _ _ h => h, fun _ _ _ _ h => h, fun _ _ _ _ h => h, fun _ _ _ _ h => h, fun _ _ _ _ h => h, fun _ _ _ _ h => h, fun _ _ _ _ h => h, fun _ _ _ _ h => h, fun _ _ _ _ h => h, fun _ _ _ _ h => h, fun _ _ _ _ h => h, trivial⟩ (od rfl) ⟨od rfl, trivial⟩ rfl fun a w x_44 hS hM => ?_
    have hS : St _ F0 [Item.box (α := Int) 3 b_15 z_42.2, Item.sl (α := S_api_Span) 82 u_22 s_18.2, Item.sl (α := S_api_Span) 82 u_37 s_33.2] _ w0 _ _ := hS
    refine s_c hS (sg (sp_buildSlice [.tmp 120] ([z_42.1] : List S_api_Span) sl80 ze82 rfl rfl rfl rfl ⟨od rfl, trivial⟩)) rfl fun a w hS hM => ?_
    refine s_append (k := 2) (Δ := [(1, isV (α := List Int) p1), (4, isV (α := Int) p4), (5, isV (α := Int) p5), (6, isV (α := List Int) p6), (7, isV (α := Int) p7), (8, isA (α := S_api_Market) p0), (10, isA (α := List Int) p2), (20, Pr.clo 67 [isA (α := List Int) p3, Pr.ptr b_15, isA (α := List Int) p2]), (21, Pr.is u_22), (107, isV (α := List Int) p1), (108, isV (α := Int) (p1.length : Int)), (109, isV (α := Int) i_31), (113, Pr.is u_37), (121, isV (α := List S_api_Span) ([z_42.1] : List S_api_Span))]) sl80 ze82 hS rfl ⟨od rfl, od rfl, od rfl, od rfl, od rfl, od rfl, od rfl, od rfl, od rfl, od rfl, od rfl, od rfl, od rfl, od rfl, trivial⟩ ⟨fun _ _ _ _ h => h, fun _ _ _ _ h => h, fun _ _ _ _ h => h, fun _ _ _ _ h => h, fun _ _ _ _ h => h, fun _ _ _ _ h => h, fun _ _ _ _ h => h, fun _ _ _ _ h => h, fun _ _ _ _ h => h, fun _ _ _ _ h => h, fun _ _ _ _ h => h, fun _ _ _ _ h => h, fun _ _ _ _ h => h, fun _ _ _ _ h => h, trivial⟩ (od rfl) (od rfl) e_46 rfl fun a w u_47 hS hM => ?_
    have hS : St _ F0 [Item.box (α := Int) 3 b_15 z_42.2, Item.sl (α := S_api_Span) 82 u_22 s_18.2, Item.sl (α := S_api_Span) 82 u_47 z_45] _ w0 _ _ := hS
    refine s_c hS (sg (sp_assign (od rfl))) rfl fun a w hS hM => ?_
    refine l_end ?_
    refine exit_block ?_
    refine et ?_
    refine st_reg mixed (by kernel_rfl) hS ?_
    refine cg (sp_add (od rfl) (odi)) ?_
    refine mv rfl ?_
    refine sn fun a w hS => ?_
    cases h
    exact ⟨k_34, _, _, u_47, rfl, hF_34, hS.weak ⟨od rfl, od rfl, od rfl, od rfl, od rfl, od rfl, od rfl, od rfl, od rfl, od rfl, od rfl, od rfl, od (congrArg (fun z => some (isV (α := Int) z)) hw_34), trivial⟩⟩
  refine wp_exit ?_
  obtain rfl := (fors_done hF_34 hb).symm
  have h := hr_36
  refine exit_thenE ?_
  refine exit_thenE ?_
  refine exit_here ?_
  refine et ?_
  refine ws ?_
  have hS := st_freeze 1 21 hS rfl rfl
  have hS := st_freeze 1 22 hS rfl rfl
  obtain ⟨v_48, e_49, h⟩ := bind_some h
  have hS := st_drop 0 hS
  refine l_start ?_
  refine s_c hS (sg (sp_load ty24 (od rfl))) rfl fun a w hS hM => ?_
  refine s_c hS (sg (sp_move (od rfl))) rfl fun a w hS hM => ?_
  refine s_c hS (sg (sp_move (od rfl))) rfl fun a w hS hM => ?_
  refine s_c hS (sg (sp_move (od rfl))) rfl fun a w hS hM => ?_
  refine s_c hS (sg (sp_move (od rfl))) rfl fun a w hS hM => ?_
  refine s_c hS (sg (sp_move (od rfl))) rfl fun a w hS hM => ?_
  refine s_c hS (sg (sp_call en61 (f61_ok e_49) ⟨od rfl, od rfl, od rfl, od rfl, od rfl, od rfl, trivial⟩)) rfl fun a w hS hM => ?_
  refine s_c hS (sg (sp_move (od rfl))) rfl fun a w hS hM => ?_
  refine s_c hS (sg (sp_extract (od rfl) rfl)) rfl fun a w hS hM => ?_
  refine s_c hS (sg (sp_extract (od rfl) rfl)) rfl fun a w hS hM => ?_
  refine s_c hS (sg (sp_extract (od rfl) rfl)) rfl fun a w hS hM => ?_
  refine s_allocStore ze82 hS (od rfl) (fun k hk => by cases hk; rfl) rfl fun a w hS hM => ?_
  refine s_c hS (sg (sp_assign (od rfl))) rfl fun a w hS hM => ?_
  refine s_c hS (sg (sp_assign (od rfl))) rfl fun a w hS hM => ?_
  refine l_end ?_
  refine et ?_
  refine ws ?_
  obtain ⟨v_50, e_51, h⟩ := bind_some h
  refine st_reg mixed (by kernel_rfl) hS ?_
  refine cg (sp_load ty24 (od rfl)) ?_
  refine mv rfl ?_
  refine mv rfl ?_
  refine mv rfl ?_
  refine cg (sp_call en33 (f33_ok e_51) ⟨od rfl, od rfl, od rfl, od rfl, trivial⟩) ?_
  refine mv rfl ?_
  refine cg (sp_extract (od rfl) rfl) ?_
  refine cg (sp_extract (od rfl) rfl) ?_
  refine cg (sp_extract (od rfl) rfl) ?_
  refine cg (sp_assign (od rfl)) ?_
  refine cg (sp_assign (od rfl)) ?_
  refine cg (sp_assign (od rfl)) ?_
  refine sn fun a w hS => ?_
  refine et ?_
  refine ws ?_
  refine ws ?_
  refine st_reg mixed (by kernel_rfl) hS ?_
  refine mv rfl ?_
  refine cg (sp_neq (od rfl) (odi)) ?_
  refine mv rfl ?_
  refine sc (sgF rfl fun hG => sp_move (od rfl)) ?_
  refine sc (sgF rfl fun hG => sp_neq (odw rfl hG) (odi)) ?_
  refine cg (sp_pickOr (od rfl) fun hg => odw rfl (not_t hg)) ?_
  refine mv rfl ?_
  refine sc (sgF rfl fun hG => sp_move (od rfl)) ?_
  refine sc (sgF rfl fun hG => sp_move (od rfl)) ?_
  refine sc (sgF rfl fun hG => sp_neqB Try.underlying4 (odw rfl hG) (odw rfl hG)) ?_
  refine cg (sp_pickOr (od rfl) fun hg => odw rfl (not_t hg)) ?_
  refine sn fun a w hS => ?_
  refine et ?_
  refine st_cond hS rfl (fun hb => ?_) (fun hb => ?_)
  · have h := ite_t hb h
    refine ws ?_
    refine st_reg mixed (by kernel_rfl) hS ?_
    refine cg (sp_assign (odb)) ?_
    refine sn fun a w hS => ?_
    refine et ?_
    refine wp_ret ?_
    refine exit_thenR ?_
    cases h
    exact st_ret hS (run_results1 Try.results15 a w) (hS.get rfl)
  have h := ite_f hb h
  refine wp_skip ?_
  refine et ?_
  refine ws ?_
  refine ws ?_
  refine st_reg mixed (by kernel_rfl) hS ?_
  refine mv rfl ?_
  refine cg (sp_not (od rfl)) ?_
  refine sn fun a w hS => ?_
  refine et ?_
  refine st_cond hS rfl (fun hb => ?_) (fun hb => ?_)
  · have h := ite_t hb h
    refine ws ?_
    obtain ⟨v_52, e_53, h⟩ := bind_some h
    refine st_reg mixed (by kernel_rfl) hS ?_
    refine cg (sp_load ty24 (od rfl)) ?_
    refine mv rfl ?_
    refine mv rfl ?_
    refine mv rfl ?_
    refine cg (sp_call en66 (f66_ok e_53) ⟨od rfl, od rfl, od rfl, od rfl, trivial⟩) ?_
    refine mv rfl ?_
    refine cg (sp_extract (od rfl) rfl) ?_
    refine cg (sp_extract (od rfl) rfl) ?_
    refine cg (sp_assign (od rfl)) ?_
    refine cg (sp_assign (od rfl)) ?_
    refine sn fun a w hS => ?_
    refine et ?_
    refine ws ?_
    obtain ⟨v_54, e_55, h⟩ := bind_some h
    refine st_reg mixed (by kernel_rfl) hS ?_
    refine mv rfl ?_
    refine cg (sp_eql (od rfl) (odi)) ?_
    refine mv rfl ?_
    refine sc (sgT rfl fun hG => sp_load ty24 (od rfl)) ?_
    refine sc (sgT rfl fun hG => sp_move (od rfl)) ?_
    refine sc (sgT rfl fun hG => sp_move (od rfl)) ?_
    refine sc (sgT rfl fun hG => sp_move (od rfl)) ?_
    refine sc (sgT rfl fun hG => sp_move (od rfl)) ?_
    refine sc (sgT rfl fun hG => sp_call en64 (f64_ok (guard_some e_55 hG)) ⟨odw rfl hG, odw rfl hG, odw rfl hG, odw rfl hG, odi, odw rfl hG, trivial⟩) ?_
    refine sc (sgT rfl fun hG => sp_neq (odw rfl hG) (odi)) ?_
    refine cg (sp_pickAnd (od rfl) fun hg => odw rfl hg) ?_
    refine cg (sp_assign (od rfl)) ?_
    refine sn fun a w hS => ?_
    refine et ?_
    refine wp_ret ?_
    refine exit_thenR ?_
    cases h
    exact st_ret hS (run_results1 Try.results15 a w) (hS.get rfl)
  have h := ite_f hb h
  refine wp_skip ?_
  refine et ?_
  refine ws ?_
  obtain ⟨v_56, e_57, h⟩ := bind_some h
  obtain ⟨v_58, e_59, h⟩ := bind_some h
  refine st_reg mixed (by kernel_rfl) hS ?_
  refine cg (sp_load ty27 (od rfl)) ?_
  refine mv rfl ?_
  refine cg (sp_indexAddr sl27 (od rfl) (od rfl) e_57) ?_
  refine cg (sp_load ty3 (od rfl)) ?_
  refine cg (sp_load ty27 (od rfl)) ?_
  refine mv rfl ?_
  refine cg (sp_indexAddr sl27 (od rfl) (od rfl) e_59) ?_
  refine cg (sp_load ty3 (od rfl)) ?_
  refine cg (sp_sub (od rfl) (od rfl)) ?_
  refine cg (sp_assign (od rfl)) ?_
  refine sn fun a w hS => ?_
  refine et ?_
  refine ws ?_
  refine ws ?_
  refine st_reg mixed (by kernel_rfl) hS ?_
  refine mv rfl ?_
  refine cg (sp_fieldAddr fd82_0 (od rfl)) ?_
  refine cg (sp_load ty3 (od rfl)) ?_
  refine cg (sp_lss (od rfl) (od rfl)) ?_
  refine mv rfl ?_
  refine sc (sgF rfl fun hG => sp_move (od rfl)) ?_
  refine sc (sgF rfl fun hG => sp_fieldAddr fd82_1 (od rfl)) ?_
  refine sc (sgF rfl fun hG => sp_load ty3 (odw rfl hG)) ?_
  refine sc (sgF rfl fun hG => sp_gtr (odw rfl hG) (odw rfl hG)) ?_
  refine cg (sp_pickOr (od rfl) fun hg => odw rfl (not_t hg)) ?_
  refine mv rfl ?_
  refine sc (sgF rfl fun hG => sp_fieldAddr fd82_1 (od rfl)) ?_
  refine sc (sgF rfl fun hG => sp_load ty3 (odw rfl hG)) ?_
  refine sc (sgF rfl fun hG => sp_fieldAddr fd82_0 (od rfl)) ?_
  refine sc (sgF rfl fun hG => sp_load ty3 (odw rfl hG)) ?_
  refine sc (sgF rfl fun hG => sp_sub (odw rfl hG) (odw rfl hG)) ?_
  refine sc (sgF rfl fun hG => sp_move (od rfl)) ?_
  refine sc (sgF rfl fun hG => sp_gtr (odw rfl hG) (odw rfl hG)) ?_
  refine cg (sp_pickOr (od rfl) fun hg => odw rfl (not_t hg)) ?_
  refine mv rfl ?_
  refine sc (sgF rfl fun hG => sp_move (od rfl)) ?_
  refine sc (sgF rfl fun hG => sp_lss (odw rfl hG) (odi)) ?_
  refine cg (sp_pickOr (od rfl) fun hg => odw rfl (not_t hg)) ?_
  refine sn fun a w hS => ?_
  refine et ?_
  refine st_cond hS rfl (fun hb => ?_) (fun hb => ?_)
  · have h := ite_t hb h
    refine ws ?_
    refine st_reg mixed (by kernel_rfl) hS ?_
    refine cg (sp_assign (odb)) ?_
    refine sn fun a w hS => ?_
    refine et ?_
    refine wp_ret ?_
    refine exit_thenR ?_
    cases h
    exact st_ret hS (run_results1 Try.results15 a w) (hS.get rfl)
  have h := ite_f hb h
  refine wp_skip ?_
  refine et ?_
  refine ws ?_
  refine ws ?_
  obtain ⟨v_60, e_61, h⟩ := bind_some h
  refine st_reg mixed (by kernel_rfl) hS ?_
  refine mv rfl ?_
  refine cg (sp_gtr (od rfl) (odi)) ?_
  refine mv rfl ?_
  refine sc (sgT rfl fun hG => sp_move (od rfl)) ?_
  refine sc (sgT rfl fun hG => sp_geq (odw rfl hG) (odi)) ?_
  refine cg (sp_pickAnd (od rfl) fun hg => odw rfl hg) ?_
  refine mv rfl ?_
  refine sc (sgT rfl fun hG => sp_move (od rfl)) ?_
  refine sc (sgT rfl fun hG => sp_move (od rfl)) ?_
  refine sc (sgT rfl fun hG => sp_lss (odw rfl hG) (odw rfl hG)) ?_
  refine cg (sp_pickAnd (od rfl) fun hg => odw rfl hg) ?_
  refine mv rfl ?_
  refine sc (sgT rfl fun hG => sp_load ty24 (od rfl)) ?_
  refine sc (sgT rfl fun hG => sp_move (od rfl)) ?_
  refine sc (sgT rfl fun hG => sp_move (od rfl)) ?_
  refine sc (sgT rfl fun hG => sp_move (od rfl)) ?_
  refine sc (sgT rfl fun hG => sp_move (od rfl)) ?_
  refine sc (sgT rfl fun hG => sp_move (od rfl)) ?_
  refine sc (sgT rfl fun hG => sp_call en64 (f64_ok (guard_some e_61 hG)) ⟨odw rfl hG, odw rfl hG, odw rfl hG, odw rfl hG, odw rfl hG, odw rfl hG, trivial⟩) ?_
  refine sc (sgT rfl fun hG => sp_eql (odw rfl hG) (odi)) ?_
  refine cg (sp_pickAnd (od rfl) fun hg => odw rfl hg) ?_
  refine sn fun a w hS => ?_
  refine et ?_
  refine st_cond hS rfl (fun hb => ?_) (fun hb => ?_)
  · have h := ite_t hb h
    refine ws ?_
    refine st_reg mixed (by kernel_rfl) hS ?_
    refine cg (sp_assign (odb)) ?_
    refine sn fun a w hS => ?_
    refine et ?_
    refine wp_ret ?_
    refine exit_thenR ?_
    cases h
    exact st_ret hS (run_results1 Try.results15 a w) (hS.get rfl)
  have h := ite_f hb h
  refine wp_skip ?_
  refine et ?_
  refine ws ?_
  obtain ⟨v_62, e_63, h⟩ := bind_some h
  refine st_reg mixed (by kernel_rfl) hS ?_
  refine cg (sp_load ty24 (od rfl)) ?_
  refine mv rfl ?_
  refine mv rfl ?_
  refine mv rfl ?_
  refine cg (sp_call en63 (f63_ok e_63) ⟨od rfl, od rfl, od rfl, od rfl, trivial⟩) ?_
  refine mv rfl ?_
  refine cg (sp_extract (od rfl) rfl) ?_
  refine cg (sp_extract (od rfl) rfl) ?_
  refine cg (sp_extract (od rfl) rfl) ?_
  refine cg (sp_assign (od rfl)) ?_
  refine cg (sp_assign (od rfl)) ?_
  refine cg (sp_assign (od rfl)) ?_
  refine sn fun a w hS => ?_
  refine et ?_
  refine ws ?_
  obtain ⟨v_64, e_65, h⟩ := bind_some h
  refine l_start ?_
  refine s_c hS (sg (sp_load ty24 (od rfl))) rfl fun a w hS hM => ?_
  refine s_c hS (sg (sp_move (od rfl))) rfl fun a w hS hM => ?_
  refine s_c hS (sg (sp_move (od rfl))) rfl fun a w hS hM => ?_
  refine s_c hS (sg (sp_move (od rfl))) rfl fun a w hS hM => ?_
  refine s_c hS (sg (sp_move (od rfl))) rfl fun a w hS hM => ?_
  refine s_c hS (sg (sp_move (od rfl))) rfl fun a w hS hM => ?_
  refine s_c hS (sg (sp_call en61 (f61_ok e_65) ⟨od rfl, od rfl, od rfl, od rfl, od rfl, od rfl, trivial⟩)) rfl fun a w hS hM => ?_
  refine s_c hS (sg (sp_move (od rfl))) rfl fun a w hS hM => ?_
  refine s_c hS (sg (sp_extract (od rfl) rfl)) rfl fun a w hS hM => ?_
  refine s_c hS (sg (sp_extract (od rfl) rfl)) rfl fun a w hS hM => ?_
  refine s_c hS (sg (sp_extract (od rfl) rfl)) rfl fun a w hS hM => ?_
  refine s_allocStore ze82 hS (od rfl) (fun k hk => by cases hk; rfl) rfl fun a w hS hM => ?_
  refine s_c hS (sg (sp_assign (od rfl))) rfl fun a w hS hM => ?_
  refine s_c hS (sg (sp_assign (od rfl))) rfl fun a w hS hM => ?_
  refine l_end ?_
  refine et ?_
  refine ws ?_
  obtain ⟨v_66, e_67, h⟩ := bind_some h
  refine st_reg mixed (by kernel_rfl) hS ?_
  refine cg (sp_load ty24 (od rfl)) ?_
  refine mv rfl ?_
  refine mv rfl ?_
  refine mv rfl ?_
  refine cg (sp_call en66 (f66_ok e_67) ⟨od rfl, od rfl, od rfl, od rfl, trivial⟩) ?_
  refine mv rfl ?_
  refine cg (sp_extract (od rfl) rfl) ?_
  refine cg (sp_extract (od rfl) rfl) ?_
  refine cg (sp_assign (od rfl)) ?_
  refine cg (sp_assign (od rfl)) ?_
  refine sn fun a w hS => ?_
  refine et ?_
  refine ws ?_
  obtain ⟨v_68, e_69, h⟩ := bind_some h
  refine st_reg mixed (by kernel_rfl) hS ?_
  refine mv rfl ?_
  refine cg (sp_eql (od rfl) (odi)) ?_
  refine mv rfl ?_
  refine sc (sgT rfl fun hG => sp_move (od rfl)) ?_
  refine sc (sgT rfl fun hG => sp_eql (odw rfl hG) (odi)) ?_
  refine cg (sp_pickAnd (od rfl) fun hg => odw rfl hg) ?_
  refine mv rfl ?_
  refine sc (sgT rfl fun hG => sp_move (od rfl)) ?_
  refine sc (sgT rfl fun hG => sp_eql (odw rfl hG) (odi)) ?_
  refine cg (sp_pickAnd (od rfl) fun hg => odw rfl hg) ?_
  refine mv rfl ?_
  refine sc (sgT rfl fun hG => sp_move (od rfl)) ?_
  refine cg (sp_pickAnd (od rfl) fun hg => odw rfl hg) ?_
  refine mv rfl ?_
  refine sc (sgT rfl fun hG => sp_fieldAddr fd82_1 (od rfl)) ?_
  refine sc (sgT rfl fun hG => sp_load ty3 (odw rfl hG)) ?_
  refine sc (sgT rfl fun hG => sp_fieldAddr fd82_0 (od rfl)) ?_
  refine sc (sgT rfl fun hG => sp_load ty3 (odw rfl hG)) ?_
  refine sc (sgT rfl fun hG => sp_sub (odw rfl hG) (odw rfl hG)) ?_
  refine sc (sgT rfl fun hG => sp_move (od rfl)) ?_
  refine sc (sgT rfl fun hG => sp_eql (odw rfl hG) (odw rfl hG)) ?_
  refine cg (sp_pickAnd (od rfl) fun hg => odw rfl hg) ?_
  refine mv rfl ?_
  refine sc (sgT rfl fun hG => sp_load ty24 (od rfl)) ?_
  refine sc (sgT rfl fun hG => sp_move (od rfl)) ?_
  refine sc (sgT rfl fun hG => sp_move (od rfl)) ?_
  refine sc (sgT rfl fun hG => sp_move (od rfl)) ?_
  refine sc (sgT rfl fun hG => sp_move (od rfl)) ?_
  refine sc (sgT rfl fun hG => sp_move (od rfl)) ?_
  refine sc (sgT rfl fun hG => sp_call en64 (f64_ok (guard_some e_69 hG)) ⟨odw rfl hG, odw rfl hG, odw rfl hG, odw rfl hG, odw rfl hG, odw rfl hG, trivial⟩) ?_
  refine sc (sgT rfl fun hG => sp_eql (odw rfl hG) (odi)) ?_
  refine cg (sp_pickAnd (od rfl) fun hg => odw rfl hg) ?_
  refine cg (sp_assign (od rfl)) ?_
  refine sn fun a w hS => ?_
  refine et ?_
  refine wp_ret ?_
  cases h
  exact st_ret hS (run_results1 Try.results15 a w) (hS.get rfl)

end Go.Proofs.Ytkbilbeaedocjaa
