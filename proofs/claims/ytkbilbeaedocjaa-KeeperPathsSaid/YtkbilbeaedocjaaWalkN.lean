/-
  What is proved: each Go function named here returns what its model tells, and changes nothing that was there; where the model tells something.
-/
import Derived.Test.YtkbilbeaedocjaaWalkE
import Derived.Test.YtkbilbeaedocjaaWalkP
import Derived.Test.YtkbilbeaedocjaaModelN
set_option linter.unusedVariables false
set_option maxRecDepth 100000
namespace Go.Proofs.Ytkbilbeaedocjaa
open Go Go.RowKit Go.Proofs.Ytkbilbeaedocjaa.Wh

theorem f114_ok {fuel : Nat} {p0 : List S_api_Offer} {p1 : Int} {p2 : Int} {r : Int} (h : M.f114 fuel p0 p1 p2 = some r) : CallOK Try.prog 114 [isV p0, isV p1, isV p2] (isV r) := by
  unfold M.f114 at h
  refine callS_of Try.func114 rfl Try.ntmps114 rfl fun F0 w0 a hS => ?_
  refine ws ?_
  refine st_reg mixed (by kernel_rfl) hS ?_
  refine cg (sp_assign (odi)) ?_
  refine sn fun a w hS => ?_
  refine et ?_
  refine ws ?_
  refine st_reg mixed (by kernel_rfl) hS ?_
  refine cg (sp_assign (odi)) ?_
  refine sn fun a w hS => ?_
  refine et ?_
  refine ws ?_
  refine ws ?_
  refine st_reg mixed (by kernel_rfl) hS ?_
  refine cg (sp_assign (odi)) ?_
  refine sn fun a w hS => ?_
  refine et ?_
  refine wp_block ?_
  obtain ⟨o_2, e_3, hr_4⟩ := bind_some h
  refine c_loop (fun K a w => ∃ s_1 : Int × Int, loopM _ K s_1 = some o_2 ∧ St 57 F0 [] [(0, isV (α := List S_api_Offer) p0), (1, isV (α := Int) p1), (2, isV (α := Int) p2), (7, isV (α := Int) s_1.1), (8, isV (α := Int) s_1.2)] w0 a w) ?_ ?_ ⟨_, e_3, hS.weak ⟨od rfl, od rfl, od rfl, od rfl, od rfl, trivial⟩⟩
  · rintro a w ⟨_, hk, _⟩; cases hk
  rintro K a w ⟨s_1, hF_2, hS⟩
  obtain ⟨o, h, hN_2, hL_2⟩ := loop_more hF_2
  refine ws ?_
  refine ws ?_
  refine st_reg mixed (by kernel_rfl) hS ?_
  refine mv rfl ?_
  refine mv rfl ?_
  refine cg (sp_len Try.underlying22 (od rfl)) ?_
  refine cg (sp_lss (od rfl) (od rfl)) ?_
  refine sn fun a w hS => ?_
  refine et ?_
  refine st_cond hS rfl (fun hb => ?_) (fun hb => ?_)
  · have h := ite_t hb h
    refine wp_skip ?_
    refine et ?_
    refine ws ?_
    refine wp_block ?_
    refine ws ?_
    obtain ⟨v_5, e_6, h⟩ := bind_some h
    obtain ⟨v_7, e_8, h⟩ := bind_some h
    obtain ⟨v_9, e_10, h⟩ := bind_some h
    obtain ⟨v_11, e_12, h⟩ := bind_some h
    refine st_reg mixed (by kernel_rfl) hS ?_
    refine mv rfl ?_
    refine mv rfl ?_
    refine cg (sp_indexAddr sl22 (od rfl) (od rfl) e_6) ?_
    refine cg (sp_fieldAddr fd59_0 (od rfl)) ?_
    refine cg (sp_load ty3 (od rfl)) ?_
    refine mv rfl ?_
    refine cg (sp_eql (od rfl) (od rfl)) ?_
    refine mv rfl ?_
    refine sc (sgT rfl fun hG => sp_move (od rfl)) ?_
    refine sc (sgT rfl fun hG => sp_move (od rfl)) ?_
    refine sc (sgT rfl fun hG => sp_indexAddr sl22 (odw rfl hG) (odw rfl hG) (guard_some e_8 hG)) ?_
    refine sc (sgT rfl fun hG => sp_fieldAddr fd59_1 (odw rfl hG)) ?_
    refine sc (sgT rfl fun hG => sp_load ty3 (odw rfl hG)) ?_
    refine sc (sgT rfl fun hG => sp_move (od rfl)) ?_
    refine sc (sgT rfl fun hG => sp_eql (odw rfl hG) (odw rfl hG)) ?_
    refine cg (sp_pickAnd (od rfl) fun hg => odw rfl hg) ?_
    refine mv rfl ?_
    refine sc (sgF rfl fun hG => sp_move (od rfl)) ?_
    refine sc (sgF rfl fun hG => sp_move (od rfl)) ?_
    refine sc (sgF rfl fun hG => sp_indexAddr sl22 (odw rfl hG) (odw rfl hG) (guard_some e_10 hG)) ?_
    refine sc (sgF rfl fun hG => sp_fieldAddr fd59_0 (odw rfl hG)) ?_
    refine sc (sgF rfl fun hG => sp_load ty3 (odw rfl hG)) ?_
    refine sc (sgF rfl fun hG => sp_move (od rfl)) ?_
    refine sc (sgF rfl fun hG => sp_eql (odw rfl hG) (odw rfl hG)) ?_
    refine sc (sgF rfl fun hG => sp_move (odw rfl hG)) ?_
    refine sc (sgwT rfl fun hG => sp_move (od rfl)) ?_
    refine sc (sgwT rfl fun hG => sp_move (od rfl)) ?_
    refine sc (sgwT rfl fun hG => sp_indexAddr sl22 (odw rfl hG) (odw rfl hG) (guard_some e_12 hG)) ?_
    refine sc (sgwT rfl fun hG => sp_fieldAddr fd59_1 (odw rfl hG)) ?_
    refine sc (sgwT rfl fun hG => sp_load ty3 (odw rfl hG)) ?_
    refine sc (sgwT rfl fun hG => sp_move (od rfl)) ?_
    refine sc (sgwT rfl fun hG => sp_eql (odw rfl hG) (odw rfl hG)) ?_
    refine sc (sgF rfl fun hG => sp_pickAnd (odw rfl hG) fun hg => odw rfl (and_mk hG hg)) ?_
    refine cg (sp_pickOr (od rfl) fun hg => odw rfl (not_t hg)) ?_
    refine sn fun a w hS => ?_
    refine et ?_
    obtain ⟨y_14, hj_13, h⟩ := bind_some h
    refine wp_mono (Q := fun e a w => e = Exit.normal ∧ St 57 F0 [] [(0, isV (α := List S_api_Offer) p0), (1, isV (α := Int) p1), (2, isV (α := Int) p2), (7, isV (α := Int) y_14), (8, isV (α := Int) s_1.2)] w0 a w) ?_ ?_
    · refine st_cond hS rfl (fun hb => ?_) (fun hb => ?_)
      · have h := ite_t hb hj_13
        obtain ⟨v_15, e_16, h⟩ := bind_some h
        refine st_reg mixed (by kernel_rfl) hS ?_
        refine mv rfl ?_
        refine mv rfl ?_
        refine mv rfl ?_
        refine cg (sp_indexAddr sl22 (od rfl) (od rfl) e_16) ?_
        refine cg (sp_fieldAddr fd59_3 (od rfl)) ?_
        refine cg (sp_load ty3 (od rfl)) ?_
        refine cg (sp_min (od rfl) (od rfl)) ?_
        refine cg (sp_assign (od rfl)) ?_
        refine sn fun a w hS => ?_
        cases h
        exact ⟨rfl, hS.weak ⟨od rfl, od rfl, od rfl, od rfl, od rfl, trivial⟩⟩
      have h := ite_f hb hj_13
      refine wp_skip ?_
      cases h
      exact ⟨rfl, hS.weak ⟨od rfl, od rfl, od rfl, od rfl, od rfl, trivial⟩⟩
    rintro e a w ⟨rfl, hS⟩
    refine exit_block ?_
    refine et ?_
    refine st_reg mixed (by kernel_rfl) hS ?_
    refine mv rfl ?_
    refine cg (sp_add (od rfl) (odi)) ?_
    refine cg (sp_assign (od rfl)) ?_
    refine sn fun a w hS => ?_
    cases h
    exact ⟨_, hN_2 _ rfl, hS.weak ⟨od rfl, od rfl, od rfl, od rfl, od rfl, trivial⟩⟩
  have h := ite_f hb h
  refine wp_exit ?_
  refine exit_thenE ?_
  cases h
  obtain rfl := hL_2 _ rfl
  have h := hr_4
  refine exit_thenE ?_
  refine exit_here ?_
  refine et ?_
  refine ws ?_
  refine st_reg mixed (by kernel_rfl) hS ?_
  refine mv rfl ?_
  refine cg (sp_assign (od rfl)) ?_
  refine sn fun a w hS => ?_
  refine et ?_
  refine wp_ret ?_
  cases h
  exact st_ret hS (run_results1 Try.results114 a w) (hS.get rfl)

theorem f65_ok {fuel : Nat} {p0 : S_api_Market} {p1 : List Int} {p2 : Int} {p3 : Int} {p4 : Int} {p5 : List Int} {r : Int} (h : M.f65 fuel p0 p1 p2 p3 p4 p5 = some r) : CallOK Try.prog 65 [isV p0, isV p1, isV p2, isV p3, isV p4, isV p5] (isV r) := by
  unfold M.f65 at h
  refine callS_of Try.func65 rfl Try.ntmps65 rfl fun F0 w0 a hS => ?_
  refine ws ?_
  refine st_reg mixed (by kernel_rfl) hS ?_
  refine cg (sp_box (od rfl)) ?_
  refine cg (sp_assign (odi)) ?_
  refine sn fun a w hS => ?_
  refine et ?_
  refine ws ?_
  refine ws ?_
  obtain ⟨v_1, e_2, h⟩ := bind_some h
  refine st_reg mixed (by kernel_rfl) hS ?_
  refine cg (sp_load ty24 (od rfl)) ?_
  refine mv rfl ?_
  refine mv rfl ?_
  refine mv rfl ?_
  refine mv rfl ?_
  refine cg (sp_buildSlice [.tmp 22, .tmp 23] ([p2, p3] : List Int) sl27 ze3 rfl rfl rfl rfl ⟨od rfl, od rfl, trivial⟩) ?_
  refine cg (sp_call en72 (f72_ok e_2) ⟨od rfl, od rfl, od rfl, od rfl, trivial⟩) ?_
  refine cg (sp_assign (od rfl)) ?_
  refine sn fun a w hS => ?_
  refine et ?_
  refine ws ?_
  refine st_reg mixed (by kernel_rfl) hS ?_
  refine mv rfl ?_
  refine cg (sp_neq (od rfl) (odi)) ?_
  refine sn fun a w hS => ?_
  refine et ?_
  refine st_cond hS rfl (fun hb => ?_) (fun hb => ?_)
  · have h := ite_t hb h
    refine ws ?_
    refine st_reg mixed (by kernel_rfl) hS ?_
    refine mv rfl ?_
    refine cg (sp_assign (od rfl)) ?_
    refine sn fun a w hS => ?_
    refine et ?_
    refine wp_ret ?_
    refine exit_thenR ?_
    cases h
    exact st_ret hS (run_results1 Try.results65 a w) (hS.get rfl)
  have h := ite_f hb h
  refine wp_skip ?_
  refine et ?_
  refine ws ?_
  refine st_reg mixed (by kernel_rfl) hS ?_
  refine mv rfl ?_
  refine cg (sp_len Try.underlying27 (od rfl)) ?_
  refine cg (sp_assign (od rfl)) ?_
  refine sn fun a w hS => ?_
  refine et ?_
  refine ws ?_
  refine ws ?_
  obtain ⟨v_3, e_4, h⟩ := bind_some h
  obtain ⟨v_5, e_6, h⟩ := bind_some h
  refine st_reg mixed (by kernel_rfl) hS ?_
  refine mv rfl ?_
  refine cg (sp_lss (od rfl) (odi)) ?_
  refine mv rfl ?_
  refine sc (sgF rfl fun hG => sp_move (od rfl)) ?_
  refine sc (sgF rfl fun hG => sp_gtr (odw rfl hG) (odi)) ?_
  refine cg (sp_pickOr (od rfl) fun hg => odw rfl (not_t hg)) ?_
  refine mv rfl ?_
  refine sc (sgF rfl fun hG => sp_move (od rfl)) ?_
  refine sc (sgF rfl fun hG => sp_indexAddr sl27 (odw rfl hG) (odi) (guard_some e_4 hG)) ?_
  refine sc (sgF rfl fun hG => sp_load ty3 (odw rfl hG)) ?_
  refine sc (sgF rfl fun hG => sp_move (od rfl)) ?_
  refine sc (sgF rfl fun hG => sp_neq (odw rfl hG) (odw rfl hG)) ?_
  refine cg (sp_pickOr (od rfl) fun hg => odw rfl (not_t hg)) ?_
  refine mv rfl ?_
  refine sc (sgF rfl fun hG => sp_move (od rfl)) ?_
  refine sc (sgF rfl fun hG => sp_move (od rfl)) ?_
  refine sc (sgF rfl fun hG => sp_sub (odw rfl hG) (odi)) ?_
  refine sc (sgF rfl fun hG => sp_indexAddr sl27 (odw rfl hG) (odw rfl hG) (guard_some e_6 hG)) ?_
  refine sc (sgF rfl fun hG => sp_load ty3 (odw rfl hG)) ?_
  refine sc (sgF rfl fun hG => sp_move (od rfl)) ?_
  refine sc (sgF rfl fun hG => sp_neq (odw rfl hG) (odw rfl hG)) ?_
  refine cg (sp_pickOr (od rfl) fun hg => odw rfl (not_t hg)) ?_
  refine sn fun a w hS => ?_
  refine et ?_
  refine st_cond hS rfl (fun hb => ?_) (fun hb => ?_)
  · have h := ite_t hb h
    refine ws ?_
    refine st_reg mixed (by kernel_rfl) hS ?_
    refine cg (sp_assign (odi)) ?_
    refine sn fun a w hS => ?_
    refine et ?_
    refine wp_ret ?_
    refine exit_thenR ?_
    cases h
    exact st_ret hS (run_results1 Try.results65 a w) (hS.get rfl)
  have h := ite_f hb h
  refine wp_skip ?_
  refine et ?_
  refine ws ?_
  obtain ⟨v_7, e_8, h⟩ := bind_some h
  refine st_reg mixed (by kernel_rfl) hS ?_
  refine cg (sp_load ty24 (od rfl)) ?_
  refine mv rfl ?_
  refine cg (sp_call en102 (f102_ok e_8) ⟨od rfl, od rfl, trivial⟩) ?_
  refine cg (sp_assign (od rfl)) ?_
  refine sn fun a w hS => ?_
  refine et ?_
  refine ws ?_
  refine st_reg mixed (by kernel_rfl) hS ?_
  refine cg (sp_assign (odi)) ?_
  refine sn fun a w hS => ?_
  refine et ?_
  refine ws ?_
  refine ws ?_
  refine st_reg mixed (by kernel_rfl) hS ?_
  refine cg (sp_assign (odi)) ?_
  refine sn fun a w hS => ?_
  refine et ?_
  refine wp_block ?_
  obtain ⟨o_10, e_11, hr_12⟩ := bind_some h
  refine c_loop (fun K a w => ∃ s_9 : Int × Int, loopM _ K s_9 = some o_10 ∧ St 80 F0 [] [(4, isV (α := Int) p4), (5, isV (α := List Int) p5), (14, isV (α := Int) (p5.length : Int)), (15, isV (α := List S_api_Offer) v_7), (16, isV (α := Int) s_9.1), (17, isV (α := Int) s_9.2)] w0 a w) ?_ ?_ ⟨_, e_11, hS.weak ⟨od rfl, od rfl, od rfl, od rfl, od rfl, od rfl, trivial⟩⟩
  · rintro a w ⟨_, hk, _⟩; cases hk
  rintro K a w ⟨s_9, hF_10, hS⟩
  obtain ⟨o, h, hN_10, hL_10⟩ := loop_more hF_10
  refine ws ?_
  refine ws ?_
  refine st_reg mixed (by kernel_rfl) hS ?_
  refine mv rfl ?_
  refine mv rfl ?_
  refine cg (sp_lss (od rfl) (od rfl)) ?_
  refine sn fun a w hS => ?_
  refine et ?_
  refine st_cond hS rfl (fun hb => ?_) (fun hb => ?_)
  · have h := ite_t hb h
    refine wp_skip ?_
    refine et ?_
    refine ws ?_
    refine wp_block ?_
    refine ws ?_
    obtain ⟨v_13, e_14, h⟩ := bind_some h
    obtain ⟨v_15, e_16, h⟩ := bind_some h
    obtain ⟨v_17, e_18, h⟩ := bind_some h
    refine st_reg mixed (by kernel_rfl) hS ?_
    refine mv rfl ?_
    refine mv rfl ?_
    refine mv rfl ?_
    refine cg (sp_sub (od rfl) (odi)) ?_
    refine cg (sp_indexAddr sl27 (od rfl) (od rfl) e_14) ?_
    refine cg (sp_load ty3 (od rfl)) ?_
    refine mv rfl ?_
    refine mv rfl ?_
    refine cg (sp_indexAddr sl27 (od rfl) (od rfl) e_16) ?_
    refine cg (sp_load ty3 (od rfl)) ?_
    refine cg (sp_call en114 (f114_ok e_18) ⟨od rfl, od rfl, od rfl, trivial⟩) ?_
    refine cg (sp_assign (od rfl)) ?_
    refine sn fun a w hS => ?_
    refine et ?_
    refine ws ?_
    refine ws ?_
    refine st_reg mixed (by kernel_rfl) hS ?_
    refine mv rfl ?_
    refine cg (sp_geq (od rfl) (odi)) ?_
    refine sn fun a w hS => ?_
    refine et ?_
    refine st_cond hS rfl (fun hb => ?_) (fun hb => ?_)
    · have h := ite_t hb h
      refine ws ?_
      refine st_reg mixed (by kernel_rfl) hS ?_
      refine cg (sp_assign (odi)) ?_
      refine sn fun a w hS => ?_
      refine et ?_
      refine wp_ret ?_
      refine exit_thenR ?_
      refine exit_blockR ?_
      refine exit_thenR ?_
      cases h
      obtain rfl := hL_10 _ rfl
      have h := (sum_inr hr_12)
      refine exit_thenR ?_
      refine exit_blockR ?_
      refine exit_thenR ?_
      cases h
      exact st_ret hS (run_results1 Try.results65 a w) (hS.get rfl)
    have h := ite_f hb h
    refine wp_skip ?_
    refine et ?_
    refine st_reg mixed (by kernel_rfl) hS ?_
    refine mv rfl ?_
    refine mv rfl ?_
    refine cg (sp_add (od rfl) (od rfl)) ?_
    refine cg (sp_assign (od rfl)) ?_
    refine sn fun a w hS => ?_
    refine exit_block ?_
    refine et ?_
    refine st_reg mixed (by kernel_rfl) hS ?_
    refine mv rfl ?_
    refine cg (sp_add (od rfl) (odi)) ?_
    refine cg (sp_assign (od rfl)) ?_
    refine sn fun a w hS => ?_
    cases h
    exact ⟨_, hN_10 _ rfl, hS.weak ⟨od rfl, od rfl, od rfl, od rfl, od rfl, od rfl, trivial⟩⟩
  have h := ite_f hb h
  refine wp_exit ?_
  refine exit_thenE ?_
  cases h
  obtain rfl := hL_10 _ rfl
  have h := (sum_inl hr_12)
  refine exit_thenE ?_
  refine exit_here ?_
  refine et ?_
  refine ws ?_
  refine ws ?_
  refine st_reg mixed (by kernel_rfl) hS ?_
  refine mv rfl ?_
  refine mv rfl ?_
  refine cg (sp_gtr (od rfl) (od rfl)) ?_
  refine sn fun a w hS => ?_
  refine et ?_
  refine st_cond hS rfl (fun hb => ?_) (fun hb => ?_)
  · have h := ite_t hb h
    refine ws ?_
    refine st_reg mixed (by kernel_rfl) hS ?_
    refine cg (sp_assign (odi)) ?_
    refine sn fun a w hS => ?_
    refine et ?_
    refine wp_ret ?_
    refine exit_thenR ?_
    cases h
    exact st_ret hS (run_results1 Try.results65 a w) (hS.get rfl)
  have h := ite_f hb h
  refine wp_skip ?_
  refine et ?_
  refine ws ?_
  refine st_reg mixed (by kernel_rfl) hS ?_
  refine cg (sp_assign (odi)) ?_
  refine sn fun a w hS => ?_
  refine et ?_
  refine wp_ret ?_
  cases h
  exact st_ret hS (run_results1 Try.results65 a w) (hS.get rfl)

theorem f14_ok {fuel : Nat} {p0 : S_api_Market} {p1 : List Int} {p2 : Int} {p3 : Int} {p4 : Int} {p5 : List Int} {r : Bool} (h : M.f14 fuel p0 p1 p2 p3 p4 p5 = some r) : CallOK Try.prog 14 [isV p0, isV p1, isV p2, isV p3, isV p4, isV p5] (isV r) := by
  unfold M.f14 at h
  refine callS_of Try.func14 rfl Try.ntmps14 rfl fun F0 w0 a hS => ?_
  refine ws ?_
  refine st_reg mixed (by kernel_rfl) hS ?_
  refine cg (sp_box (od rfl)) ?_
  refine cg (sp_assign (odb)) ?_
  refine sn fun a w hS => ?_
  refine et ?_
  refine ws ?_
  refine ws ?_
  obtain ⟨v_1, e_2, h⟩ := bind_some h
  refine st_reg mixed (by kernel_rfl) hS ?_
  refine cg (sp_call en16 (f16_ok e_2) trivial) ?_
  refine cg (sp_not (od rfl)) ?_
  refine sn fun a w hS => ?_
  refine et ?_
  refine st_cond hS rfl (fun hb => ?_) (fun hb => ?_)
  · have h := ite_t hb h
    refine ws ?_
    refine st_reg mixed (by kernel_rfl) hS ?_
    refine cg (sp_assign (odb)) ?_
    refine sn fun a w hS => ?_
    refine et ?_
    refine wp_ret ?_
    refine exit_thenR ?_
    cases h
    exact st_ret hS (run_results1 Try.results14 a w) (hS.get rfl)
  have h := ite_f hb h
  refine wp_skip ?_
  refine et ?_
  refine ws ?_
  refine ws ?_
  obtain ⟨v_3, e_4, h⟩ := bind_some h
  obtain ⟨v_5, e_6, h⟩ := bind_some h
  refine st_reg mixed (by kernel_rfl) hS ?_
  refine cg (sp_load ty24 (od rfl)) ?_
  refine cg (sp_call en17 (f17_ok e_4) ⟨od rfl, trivial⟩) ?_
  refine cg (sp_not (od rfl)) ?_
  refine mv rfl ?_
  refine sc (sgF rfl fun hG => sp_move (od rfl)) ?_
  refine sc (sgF rfl fun hG => sp_move (od rfl)) ?_
  refine sc (sgF rfl fun hG => sp_buildSlice [.tmp 24, .tmp 25] ([p1, p5] : List (List Int)) sl75 ze27 rfl rfl rfl rfl ⟨odw rfl hG, odw rfl hG, trivial⟩) ?_
  refine sc (sgF rfl fun hG => sp_call en55 (f55_ok (guard_some e_6 hG)) ⟨odw rfl hG, trivial⟩) ?_
  refine sc (sgF rfl fun hG => sp_not (odw rfl hG)) ?_
  refine cg (sp_pickOr (od rfl) fun hg => odw rfl (not_t hg)) ?_
  refine sn fun a w hS => ?_
  refine et ?_
  refine st_cond hS rfl (fun hb => ?_) (fun hb => ?_)
  · have h := ite_t hb h
    refine ws ?_
    refine st_reg mixed (by kernel_rfl) hS ?_
    refine cg (sp_assign (odb)) ?_
    refine sn fun a w hS => ?_
    refine et ?_
    refine wp_ret ?_
    refine exit_thenR ?_
    cases h
    exact st_ret hS (run_results1 Try.results14 a w) (hS.get rfl)
  have h := ite_f hb h
  refine wp_skip ?_
  refine et ?_
  refine ws ?_
  refine ws ?_
  obtain ⟨v_7, e_8, h⟩ := bind_some h
  obtain ⟨v_9, e_10, h⟩ := bind_some h
  refine st_reg mixed (by kernel_rfl) hS ?_
  refine cg (sp_load ty24 (od rfl)) ?_
  refine mv rfl ?_
  refine mv rfl ?_
  refine mv rfl ?_
  refine mv rfl ?_
  refine mv rfl ?_
  refine cg (sp_call en64 (f64_ok e_8) ⟨od rfl, od rfl, od rfl, od rfl, od rfl, od rfl, trivial⟩) ?_
  refine cg (sp_load ty24 (od rfl)) ?_
  refine mv rfl ?_
  refine mv rfl ?_
  refine mv rfl ?_
  refine mv rfl ?_
  refine mv rfl ?_
  refine cg (sp_call en65 (f65_ok e_10) ⟨od rfl, od rfl, od rfl, od rfl, od rfl, od rfl, trivial⟩) ?_
  refine cg (sp_neq (od rfl) (od rfl)) ?_
  refine sn fun a w hS => ?_
  refine et ?_
  refine st_cond hS rfl (fun hb => ?_) (fun hb => ?_)
  · have h := ite_t hb h
    refine ws ?_
    refine st_reg mixed (by kernel_rfl) hS ?_
    refine cg (sp_assign (odb)) ?_
    refine sn fun a w hS => ?_
    refine et ?_
    refine wp_ret ?_
    refine exit_thenR ?_
    cases h
    exact st_ret hS (run_results1 Try.results14 a w) (hS.get rfl)
  have h := ite_f hb h
  refine wp_skip ?_
  refine et ?_
  refine ws ?_
  obtain ⟨v_11, e_12, h⟩ := bind_some h
  refine st_reg mixed (by kernel_rfl) hS ?_
  refine cg (sp_load ty24 (od rfl)) ?_
  refine mv rfl ?_
  refine mv rfl ?_
  refine mv rfl ?_
  refine cg (sp_call en66 (f66_ok e_12) ⟨od rfl, od rfl, od rfl, od rfl, trivial⟩) ?_
  refine mv rfl ?_
  refine cg (sp_extract (od rfl) rfl) ?_
  refine cg (sp_extract (od rfl) rfl) ?_
  refine cg (sp_assign (od rfl)) ?_
  refine cg (sp_assign (od rfl)) ?_
  refine sn fun a w hS => ?_
  refine et ?_
  refine ws ?_
  obtain ⟨v_13, e_14, h⟩ := bind_some h
  refine st_reg mixed (by kernel_rfl) hS ?_
  refine cg (sp_load ty24 (od rfl)) ?_
  refine mv rfl ?_
  refine mv rfl ?_
  refine mv rfl ?_
  refine cg (sp_call en56 (f56_ok e_14) ⟨od rfl, od rfl, od rfl, od rfl, trivial⟩) ?_
  refine mv rfl ?_
  refine cg (sp_extract (od rfl) rfl) ?_
  refine cg (sp_extract (od rfl) rfl) ?_
  refine cg (sp_extract (od rfl) rfl) ?_
  refine cg (sp_assign (od rfl)) ?_
  refine cg (sp_assign (od rfl)) ?_
  refine cg (sp_assign (od rfl)) ?_
  refine sn fun a w hS => ?_
  refine et ?_
  refine ws ?_
  refine ws ?_
  refine st_reg mixed (by kernel_rfl) hS ?_
  refine mv rfl ?_
  refine cg (sp_neq (od rfl) (odi)) ?_
  refine sn fun a w hS => ?_
  refine et ?_
  refine st_cond hS rfl (fun hb => ?_) (fun hb => ?_)
  · have h := ite_t hb h
    refine ws ?_
    refine st_reg mixed (by kernel_rfl) hS ?_
    refine mv rfl ?_
    refine mv rfl ?_
    refine cg (sp_eql (od rfl) (od rfl)) ?_
    refine mv rfl ?_
    refine sc (sgT rfl fun hG => sp_move (od rfl)) ?_
    refine sc (sgT rfl fun hG => sp_len Try.underlying27 (odw rfl hG)) ?_
    refine sc (sgT rfl fun hG => sp_eql (odw rfl hG) (odi)) ?_
    refine cg (sp_pickAnd (od rfl) fun hg => odw rfl hg) ?_
    refine cg (sp_assign (od rfl)) ?_
    refine sn fun a w hS => ?_
    refine et ?_
    refine wp_ret ?_
    refine exit_thenR ?_
    cases h
    exact st_ret hS (run_results1 Try.results14 a w) (hS.get rfl)
  have h := ite_f hb h
  refine wp_skip ?_
  refine et ?_
  refine ws ?_
  refine ws ?_
  refine st_reg mixed (by kernel_rfl) hS ?_
  refine mv rfl ?_
  refine cg (sp_not (od rfl)) ?_
  refine sn fun a w hS => ?_
  refine et ?_
  refine st_cond hS rfl (fun hb => ?_) (fun hb => ?_)
  · have h := ite_t hb h
    refine ws ?_
    refine st_reg mixed (by kernel_rfl) hS ?_
    refine mv rfl ?_
    refine cg (sp_eql (od rfl) (odi)) ?_
    refine mv rfl ?_
    refine sc (sgT rfl fun hG => sp_move (od rfl)) ?_
    refine sc (sgT rfl fun hG => sp_len Try.underlying27 (odw rfl hG)) ?_
    refine sc (sgT rfl fun hG => sp_eql (odw rfl hG) (odi)) ?_
    refine cg (sp_pickAnd (od rfl) fun hg => odw rfl hg) ?_
    refine cg (sp_assign (od rfl)) ?_
    refine sn fun a w hS => ?_
    refine et ?_
    refine wp_ret ?_
    refine exit_thenR ?_
    cases h
    exact st_ret hS (run_results1 Try.results14 a w) (hS.get rfl)
  have h := ite_f hb h
  refine wp_skip ?_
  refine et ?_
  refine ws ?_
  obtain ⟨v_15, e_16, h⟩ := bind_some h
  refine st_reg mixed (by kernel_rfl) hS ?_
  refine mv rfl ?_
  refine cg (sp_eql (od rfl) (odi)) ?_
  refine mv rfl ?_
  refine sc (sgT rfl fun hG => sp_load ty24 (od rfl)) ?_
  refine sc (sgT rfl fun hG => sp_move (od rfl)) ?_
  refine sc (sgT rfl fun hG => sp_move (od rfl)) ?_
  refine sc (sgT rfl fun hG => sp_move (od rfl)) ?_
  refine sc (sgT rfl fun hG => sp_move (od rfl)) ?_
  refine sc (sgT rfl fun hG => sp_move (od rfl)) ?_
  refine sc (sgT rfl fun hG => sp_call en65 (f65_ok (guard_some e_16 hG)) ⟨odw rfl hG, odw rfl hG, odw rfl hG, odw rfl hG, odw rfl hG, odw rfl hG, trivial⟩) ?_
  refine sc (sgT rfl fun hG => sp_eql (odw rfl hG) (odi)) ?_
  refine cg (sp_pickAnd (od rfl) fun hg => odw rfl hg) ?_
  refine cg (sp_assign (od rfl)) ?_
  refine sn fun a w hS => ?_
  refine et ?_
  refine wp_ret ?_
  cases h
  exact st_ret hS (run_results1 Try.results14 a w) (hS.get rfl)

end Go.Proofs.Ytkbilbeaedocjaa
