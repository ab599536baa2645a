/-
  What is proved: each Go function named here returns what its model tells, and changes nothing that was there; where the model tells something.
-/
import Derived.Test.YtkbilbeaedocjaaWalkB2
import Derived.Test.YtkbilbeaedocjaaModelK0
set_option linter.unusedVariables false
set_option maxRecDepth 100000
namespace Go.Proofs.Ytkbilbeaedocjaa
open Go Go.RowKit Go.Proofs.Ytkbilbeaedocjaa.Wh

theorem f17_ok {p0 : S_api_Market} {r : Bool} (h : M.f17 p0 = some r) : CallOK Try.prog 17 [isV p0] (isV r) := by
  unfold M.f17 at h
  refine callS_of Try.func17 rfl Try.ntmps17 rfl fun F0 w0 a hS => ?_
  refine ws ?_
  refine st_reg mixed (by kernel_rfl) hS ?_
  refine cg (sp_box (od rfl)) ?_
  refine cg (sp_assign (odb)) ?_
  refine sn fun a w hS => ?_
  refine et ?_
  refine ws ?_
  refine st_reg mixed (by kernel_rfl) hS ?_
  refine cg (sp_fieldAddr fd24_2 (od rfl)) ?_
  refine cg (sp_load ty22 (od rfl)) ?_
  refine cg (sp_len Try.underlying22 (od rfl)) ?_
  refine cg (sp_leq (od rfl) (odi)) ?_
  refine mv rfl ?_
  refine sc (sgF rfl fun hG => sp_fieldAddr fd24_2 (od rfl)) ?_
  refine sc (sgF rfl fun hG => sp_load ty22 (odw rfl hG)) ?_
  refine sc (sgF rfl fun hG => sp_len Try.underlying22 (odw rfl hG)) ?_
  refine sc (sgF rfl fun hG => sp_gtr (odw rfl hG) (odi)) ?_
  refine sc (sgF rfl fun hG => sp_move (odw rfl hG)) ?_
  refine sc (sgwT rfl fun hG => sp_fieldAddr fd24_2 (od rfl)) ?_
  refine sc (sgwT rfl fun hG => sp_load ty22 (odw rfl hG)) ?_
  refine sc (sgwT rfl fun hG => sp_len Try.underlying22 (odw rfl hG)) ?_
  refine sc (sgwT rfl fun hG => sp_leq (odw rfl hG) (odi)) ?_
  refine sc (sgF rfl fun hG => sp_pickAnd (odw rfl hG) fun hg => odw rfl (and_mk hG hg)) ?_
  refine cg (sp_pickOr (od rfl) fun hg => odw rfl (not_t hg)) ?_
  refine mv rfl ?_
  refine sc (sgT rfl fun hG => sp_fieldAddr fd24_1 (od rfl)) ?_
  refine sc (sgT rfl fun hG => sp_load ty22 (odw rfl hG)) ?_
  refine sc (sgT rfl fun hG => sp_len Try.underlying22 (odw rfl hG)) ?_
  refine sc (sgT rfl fun hG => sp_leq (odw rfl hG) (odi)) ?_
  refine cg (sp_pickAnd (od rfl) fun hg => odw rfl hg) ?_
  refine cg (sp_assign (od rfl)) ?_
  refine sn fun a w hS => ?_
  refine et ?_
  refine wp_ret ?_
  cases h
  exact st_ret hS (run_results1 Try.results17 a w) (hS.get rfl)

theorem f80_ok {p0 : Int} {p1 : Int} {p2 : Int} {r : Bool} (h : M.f80 p0 p1 p2 = some r) : CallOK Try.prog 80 [isV p0, isV p1, isV p2] (isV r) := by
  unfold M.f80 at h
  refine callS_of Try.func80 rfl Try.ntmps80 rfl fun F0 w0 a hS => ?_
  refine ws ?_
  refine st_reg mixed (by kernel_rfl) hS ?_
  refine cg (sp_assign (odb)) ?_
  refine sn fun a w hS => ?_
  refine et ?_
  refine ws ?_
  refine st_reg mixed (by kernel_rfl) hS ?_
  refine mv rfl ?_
  refine mv rfl ?_
  refine cg (sp_geq (od rfl) (od rfl)) ?_
  refine mv rfl ?_
  refine sc (sgT rfl fun hG => sp_move (od rfl)) ?_
  refine sc (sgT rfl fun hG => sp_move (od rfl)) ?_
  refine sc (sgT rfl fun hG => sp_leq (odw rfl hG) (odw rfl hG)) ?_
  refine cg (sp_pickAnd (od rfl) fun hg => odw rfl hg) ?_
  refine cg (sp_assign (od rfl)) ?_
  refine sn fun a w hS => ?_
  refine et ?_
  refine wp_ret ?_
  cases h
  exact st_ret hS (run_results1 Try.results80 a w) (hS.get rfl)

theorem f96_ok {p0 : S_api_Offer} {p1 : Int} {p2 : Int} {r : Bool} (h : M.f96 p0 p1 p2 = some r) : CallOK Try.prog 96 [isV p0, isV p1, isV p2] (isV r) := by
  unfold M.f96 at h
  refine callS_of Try.func96 rfl Try.ntmps96 rfl fun F0 w0 a hS => ?_
  refine ws ?_
  refine st_reg mixed (by kernel_rfl) hS ?_
  refine cg (sp_box (od rfl)) ?_
  refine cg (sp_assign (odb)) ?_
  refine sn fun a w hS => ?_
  refine et ?_
  refine ws ?_
  obtain ⟨v_1, e_2, h⟩ := bind_some h
  obtain ⟨v_3, e_4, h⟩ := bind_some h
  obtain ⟨v_5, e_6, h⟩ := bind_some h
  obtain ⟨v_7, e_8, h⟩ := bind_some h
  refine st_reg mixed (by kernel_rfl) hS ?_
  refine cg (sp_fieldAddr fd59_0 (od rfl)) ?_
  refine cg (sp_load ty3 (od rfl)) ?_
  refine mv rfl ?_
  refine cg (sp_sub (od rfl) (odi)) ?_
  refine cg (sp_call en80 (f80_ok e_2) ⟨od rfl, odi, od rfl, trivial⟩) ?_
  refine mv rfl ?_
  refine sc (sgT rfl fun hG => sp_fieldAddr fd59_1 (od rfl)) ?_
  refine sc (sgT rfl fun hG => sp_load ty3 (odw rfl hG)) ?_
  refine sc (sgT rfl fun hG => sp_move (od rfl)) ?_
  refine sc (sgT rfl fun hG => sp_sub (odw rfl hG) (odi)) ?_
  refine sc (sgT rfl fun hG => sp_call en80 (f80_ok (guard_some e_4 hG)) ⟨odw rfl hG, odi, odw rfl hG, trivial⟩) ?_
  refine cg (sp_pickAnd (od rfl) fun hg => odw rfl hg) ?_
  refine mv rfl ?_
  refine sc (sgT rfl fun hG => sp_fieldAddr fd59_0 (od rfl)) ?_
  refine sc (sgT rfl fun hG => sp_load ty3 (odw rfl hG)) ?_
  refine sc (sgT rfl fun hG => sp_fieldAddr fd59_1 (od rfl)) ?_
  refine sc (sgT rfl fun hG => sp_load ty3 (odw rfl hG)) ?_
  refine sc (sgT rfl fun hG => sp_neq (odw rfl hG) (odw rfl hG)) ?_
  refine cg (sp_pickAnd (od rfl) fun hg => odw rfl hg) ?_
  refine mv rfl ?_
  refine sc (sgT rfl fun hG => sp_fieldAddr fd59_2 (od rfl)) ?_
  refine sc (sgT rfl fun hG => sp_load ty3 (odw rfl hG)) ?_
  refine sc (sgT rfl fun hG => sp_move (od rfl)) ?_
  refine sc (sgT rfl fun hG => sp_call en80 (f80_ok (guard_some e_6 hG)) ⟨odw rfl hG, odi, odw rfl hG, trivial⟩) ?_
  refine cg (sp_pickAnd (od rfl) fun hg => odw rfl hg) ?_
  refine mv rfl ?_
  refine sc (sgT rfl fun hG => sp_fieldAddr fd59_3 (od rfl)) ?_
  refine sc (sgT rfl fun hG => sp_load ty3 (odw rfl hG)) ?_
  refine sc (sgT rfl fun hG => sp_call en80 (f80_ok (guard_some e_8 hG)) ⟨odw rfl hG, odi, odi, trivial⟩) ?_
  refine cg (sp_pickAnd (od rfl) fun hg => odw rfl hg) ?_
  refine cg (sp_assign (od rfl)) ?_
  refine sn fun a w hS => ?_
  refine et ?_
  refine wp_ret ?_
  cases h
  exact st_ret hS (run_results1 Try.results96 a w) (hS.get rfl)

theorem f42_ok {fuel : Nat} {p0 : S_api_Market} {r : Int} (h : M.f42 fuel p0 = some r) : CallOK Try.prog 42 [isV p0] (isV r) := by
  unfold M.f42 at h
  refine callS_of Try.func42 rfl Try.ntmps42 rfl fun F0 w0 a hS => ?_
  refine ws ?_
  refine st_reg mixed (by kernel_rfl) hS ?_
  refine cg (sp_box (od rfl)) ?_
  refine cg (sp_assign (odi)) ?_
  refine sn fun a w hS => ?_
  refine et ?_
  refine ws ?_
  refine ws ?_
  obtain ⟨v_1, e_2, h⟩ := bind_some h
  refine st_reg mixed (by kernel_rfl) hS ?_
  refine cg (sp_fieldAddr fd24_0 (od rfl)) ?_
  refine cg (sp_load ty3 (od rfl)) ?_
  refine cg (sp_call en80 (f80_ok e_2) ⟨od rfl, odi, odi, trivial⟩) ?_
  refine cg (sp_not (od rfl)) ?_
  refine mv rfl ?_
  refine sc (sgF rfl fun hG => sp_fieldAddr fd24_1 (od rfl)) ?_
  refine sc (sgF rfl fun hG => sp_load ty22 (odw rfl hG)) ?_
  refine sc (sgF rfl fun hG => sp_len Try.underlying22 (odw rfl hG)) ?_
  refine sc (sgF rfl fun hG => sp_gtr (odw rfl hG) (odi)) ?_
  refine cg (sp_pickOr (od rfl) fun hg => odw rfl (not_t hg)) ?_
  refine mv rfl ?_
  refine sc (sgF rfl fun hG => sp_fieldAddr fd24_2 (od rfl)) ?_
  refine sc (sgF rfl fun hG => sp_load ty22 (odw rfl hG)) ?_
  refine sc (sgF rfl fun hG => sp_len Try.underlying22 (odw rfl hG)) ?_
  refine sc (sgF rfl fun hG => sp_gtr (odw rfl hG) (odi)) ?_
  refine cg (sp_pickOr (od rfl) fun hg => odw rfl (not_t hg)) ?_
  refine sn fun a w hS => ?_
  refine et ?_
  refine st_cond hS rfl (fun hb => ?_) (fun hb => ?_)
  · have h := ite_t hb h
    refine ws ?_
    refine st_reg mixed (by kernel_rfl) hS ?_
    refine cg (sp_assign (odi)) ?_
    refine sn fun a w hS => ?_
    refine et ?_
    refine wp_ret ?_
    refine exit_thenR ?_
    cases h
    exact st_ret hS (run_results1 Try.results42 a w) (hS.get rfl)
  have h := ite_f hb h
  refine wp_skip ?_
  refine et ?_
  refine ws ?_
  refine ws ?_
  refine st_reg mixed (by kernel_rfl) hS ?_
  refine cg (sp_assign (odi)) ?_
  refine sn fun a w hS => ?_
  refine et ?_
  refine wp_block ?_
  obtain ⟨o_4, e_5, hr_6⟩ := bind_some h
  refine c_loop (fun K a w => ∃ s_3 : Int, loopM _ K s_3 = some o_4 ∧ St 53 F0 [] [(1, isA (α := S_api_Market) p0), (3, isV (α := Int) s_3)] w0 a w) ?_ ?_ ⟨_, e_5, hS.weak ⟨od rfl, od rfl, trivial⟩⟩
  · rintro a w ⟨_, hk, _⟩; cases hk
  rintro K a w ⟨s_3, hF_4, hS⟩
  obtain ⟨o, h, hN_4, hL_4⟩ := loop_more hF_4
  refine ws ?_
  refine ws ?_
  refine st_reg mixed (by kernel_rfl) hS ?_
  refine mv rfl ?_
  refine cg (sp_fieldAddr fd24_1 (od rfl)) ?_
  refine cg (sp_load ty22 (od rfl)) ?_
  refine cg (sp_len Try.underlying22 (od rfl)) ?_
  refine cg (sp_lss (od rfl) (od rfl)) ?_
  refine sn fun a w hS => ?_
  refine et ?_
  refine st_cond hS rfl (fun hb => ?_) (fun hb => ?_)
  · have h := ite_t hb h
    refine wp_skip ?_
    refine et ?_
    refine ws ?_
    refine wp_block ?_
    refine ws ?_
    obtain ⟨v_7, e_8, h⟩ := bind_some h
    obtain ⟨v_9, e_10, h⟩ := bind_some h
    refine st_reg mixed (by kernel_rfl) hS ?_
    refine cg (sp_fieldAddr fd24_1 (od rfl)) ?_
    refine cg (sp_load ty22 (od rfl)) ?_
    refine mv rfl ?_
    refine cg (sp_indexAddr sl22 (od rfl) (od rfl) e_8) ?_
    refine cg (sp_load ty59 (od rfl)) ?_
    refine cg (sp_fieldAddr fd24_0 (od rfl)) ?_
    refine cg (sp_load ty3 (od rfl)) ?_
    refine cg (sp_call en96 (f96_ok e_10) ⟨od rfl, od rfl, odi, trivial⟩) ?_
    refine cg (sp_not (od rfl)) ?_
    refine sn fun a w hS => ?_
    refine et ?_
    refine st_cond hS rfl (fun hb => ?_) (fun hb => ?_)
    · have h := ite_t hb h
      refine ws ?_
      refine st_reg mixed (by kernel_rfl) hS ?_
      refine cg (sp_assign (odi)) ?_
      refine sn fun a w hS => ?_
      refine et ?_
      refine wp_ret ?_
      refine exit_blockR ?_
      refine exit_thenR ?_
      cases h
      obtain rfl := hL_4 _ rfl
      have h := (sum_inr hr_6)
      refine exit_thenR ?_
      refine exit_blockR ?_
      refine exit_thenR ?_
      cases h
      exact st_ret hS (run_results1 Try.results42 a w) (hS.get rfl)
    have h := ite_f hb h
    refine wp_skip ?_
    refine exit_block ?_
    refine et ?_
    refine st_reg mixed (by kernel_rfl) hS ?_
    refine mv rfl ?_
    refine cg (sp_add (od rfl) (odi)) ?_
    refine cg (sp_assign (od rfl)) ?_
    refine sn fun a w hS => ?_
    cases h
    exact ⟨_, hN_4 _ rfl, hS.weak ⟨od rfl, od rfl, trivial⟩⟩
  have h := ite_f hb h
  refine wp_exit ?_
  refine exit_thenE ?_
  cases h
  obtain rfl := hL_4 _ rfl
  have h := (sum_inl hr_6)
  refine exit_thenE ?_
  refine exit_here ?_
  refine et ?_
  refine ws ?_
  refine ws ?_
  refine st_reg mixed (by kernel_rfl) hS ?_
  refine cg (sp_assign (odi)) ?_
  refine sn fun a w hS => ?_
  refine et ?_
  refine wp_block ?_
  obtain ⟨o_12, e_13, hr_14⟩ := bind_some h
  refine c_loop (fun K a w => ∃ s_11 : Int, loopM _ K s_11 = some o_12 ∧ St 53 F0 [] [(1, isA (α := S_api_Market) p0), (4, isV (α := Int) s_11)] w0 a w) ?_ ?_ ⟨_, e_13, hS.weak ⟨od rfl, od rfl, trivial⟩⟩
  · rintro a w ⟨_, hk, _⟩; cases hk
  rintro K a w ⟨s_11, hF_12, hS⟩
  obtain ⟨o, h, hN_12, hL_12⟩ := loop_more hF_12
  refine ws ?_
  refine ws ?_
  refine st_reg mixed (by kernel_rfl) hS ?_
  refine mv rfl ?_
  refine cg (sp_fieldAddr fd24_2 (od rfl)) ?_
  refine cg (sp_load ty22 (od rfl)) ?_
  refine cg (sp_len Try.underlying22 (od rfl)) ?_
  refine cg (sp_lss (od rfl) (od rfl)) ?_
  refine sn fun a w hS => ?_
  refine et ?_
  refine st_cond hS rfl (fun hb => ?_) (fun hb => ?_)
  · have h := ite_t hb h
    refine wp_skip ?_
    refine et ?_
    refine ws ?_
    refine wp_block ?_
    refine ws ?_
    obtain ⟨v_15, e_16, h⟩ := bind_some h
    obtain ⟨v_17, e_18, h⟩ := bind_some h
    refine st_reg mixed (by kernel_rfl) hS ?_
    refine cg (sp_fieldAddr fd24_2 (od rfl)) ?_
    refine cg (sp_load ty22 (od rfl)) ?_
    refine mv rfl ?_
    refine cg (sp_indexAddr sl22 (od rfl) (od rfl) e_16) ?_
    refine cg (sp_load ty59 (od rfl)) ?_
    refine cg (sp_fieldAddr fd24_0 (od rfl)) ?_
    refine cg (sp_load ty3 (od rfl)) ?_
    refine cg (sp_call en96 (f96_ok e_18) ⟨od rfl, od rfl, odi, trivial⟩) ?_
    refine cg (sp_not (od rfl)) ?_
    refine sn fun a w hS => ?_
    refine et ?_
    refine st_cond hS rfl (fun hb => ?_) (fun hb => ?_)
    · have h := ite_t hb h
      refine ws ?_
      refine st_reg mixed (by kernel_rfl) hS ?_
      refine cg (sp_assign (odi)) ?_
      refine sn fun a w hS => ?_
      refine et ?_
      refine wp_ret ?_
      refine exit_blockR ?_
      refine exit_thenR ?_
      cases h
      obtain rfl := hL_12 _ rfl
      have h := (sum_inr hr_14)
      refine exit_thenR ?_
      refine exit_blockR ?_
      refine exit_thenR ?_
      cases h
      exact st_ret hS (run_results1 Try.results42 a w) (hS.get rfl)
    have h := ite_f hb h
    refine wp_skip ?_
    refine exit_block ?_
    refine et ?_
    refine st_reg mixed (by kernel_rfl) hS ?_
    refine mv rfl ?_
    refine cg (sp_add (od rfl) (odi)) ?_
    refine cg (sp_assign (od rfl)) ?_
    refine sn fun a w hS => ?_
    cases h
    exact ⟨_, hN_12 _ rfl, hS.weak ⟨od rfl, od rfl, trivial⟩⟩
  have h := ite_f hb h
  refine wp_exit ?_
  refine exit_thenE ?_
  cases h
  obtain rfl := hL_12 _ rfl
  have h := (sum_inl hr_14)
  refine exit_thenE ?_
  refine exit_here ?_
  refine et ?_
  refine ws ?_
  refine st_reg mixed (by kernel_rfl) hS ?_
  refine cg (sp_assign (odi)) ?_
  refine sn fun a w hS => ?_
  refine et ?_
  refine wp_ret ?_
  cases h
  exact st_ret hS (run_results1 Try.results42 a w) (hS.get rfl)

theorem f88_ok {fuel : Nat} {p0 : S_api_Market} {p1 : List Int} {r : Bool} (h : M.f88 fuel p0 p1 = some r) : CallOK Try.prog 88 [isV p0, isV p1] (isV r) := by
  unfold M.f88 at h
  refine callS_of Try.func88 rfl Try.ntmps88 rfl fun F0 w0 a hS => ?_
  refine ws ?_
  refine st_reg mixed (by kernel_rfl) hS ?_
  refine cg (sp_box (od rfl)) ?_
  refine cg (sp_assign (odb)) ?_
  refine sn fun a w hS => ?_
  refine et ?_
  refine ws ?_
  refine ws ?_
  refine st_reg mixed (by kernel_rfl) hS ?_
  refine cg (sp_assign (odi)) ?_
  refine sn fun a w hS => ?_
  refine et ?_
  refine wp_block ?_
  obtain ⟨o_2, e_3, hr_4⟩ := bind_some h
  refine c_loop (fun K a w => ∃ s_1 : Int, loopM _ K s_1 = some o_2 ∧ St 38 F0 [] [(1, isV (α := List Int) p1), (2, isA (α := S_api_Market) p0), (5, isV (α := Int) s_1)] w0 a w) ?_ ?_ ⟨_, e_3, hS.weak ⟨od rfl, od rfl, od rfl, trivial⟩⟩
  · rintro a w ⟨_, hk, _⟩; cases hk
  rintro K a w ⟨s_1, hF_2, hS⟩
  obtain ⟨o, h, hN_2, hL_2⟩ := loop_more hF_2
  refine ws ?_
  refine ws ?_
  refine st_reg mixed (by kernel_rfl) hS ?_
  refine mv rfl ?_
  refine mv rfl ?_
  refine cg (sp_len Try.underlying27 (od rfl)) ?_
  refine cg (sp_lss (od rfl) (od rfl)) ?_
  refine sn fun a w hS => ?_
  refine et ?_
  refine st_cond hS rfl (fun hb => ?_) (fun hb => ?_)
  · have h := ite_t hb h
    refine wp_skip ?_
    refine et ?_
    refine ws ?_
    refine wp_block ?_
    refine ws ?_
    obtain ⟨v_5, e_6, h⟩ := bind_some h
    obtain ⟨v_7, e_8, h⟩ := bind_some h
    obtain ⟨v_9, e_10, h⟩ := bind_some h
    obtain ⟨v_11, e_12, h⟩ := bind_some h
    refine st_reg mixed (by kernel_rfl) hS ?_
    refine mv rfl ?_
    refine mv rfl ?_
    refine cg (sp_indexAddr sl27 (od rfl) (od rfl) e_6) ?_
    refine cg (sp_load ty3 (od rfl)) ?_
    refine cg (sp_fieldAddr fd24_2 (od rfl)) ?_
    refine cg (sp_load ty22 (od rfl)) ?_
    refine cg (sp_len Try.underlying22 (od rfl)) ?_
    refine cg (sp_sub (od rfl) (odi)) ?_
    refine cg (sp_call en80 (f80_ok e_8) ⟨od rfl, odi, od rfl, trivial⟩) ?_
    refine cg (sp_not (od rfl)) ?_
    refine mv rfl ?_
    refine sc (sgF rfl fun hG => sp_move (od rfl)) ?_
    refine sc (sgF rfl fun hG => sp_gtr (odw rfl hG) (odi)) ?_
    refine sc (sgF rfl fun hG => sp_move (odw rfl hG)) ?_
    refine sc (sgwT rfl fun hG => sp_move (od rfl)) ?_
    refine sc (sgwT rfl fun hG => sp_move (od rfl)) ?_
    refine sc (sgwT rfl fun hG => sp_sub (odw rfl hG) (odi)) ?_
    refine sc (sgwT rfl fun hG => sp_indexAddr sl27 (odw rfl hG) (odw rfl hG) (guard_some e_10 hG)) ?_
    refine sc (sgwT rfl fun hG => sp_load ty3 (odw rfl hG)) ?_
    refine sc (sgwT rfl fun hG => sp_move (od rfl)) ?_
    refine sc (sgwT rfl fun hG => sp_move (od rfl)) ?_
    refine sc (sgwT rfl fun hG => sp_indexAddr sl27 (odw rfl hG) (odw rfl hG) (guard_some e_12 hG)) ?_
    refine sc (sgwT rfl fun hG => sp_load ty3 (odw rfl hG)) ?_
    refine sc (sgwT rfl fun hG => sp_geq (odw rfl hG) (odw rfl hG)) ?_
    refine sc (sgF rfl fun hG => sp_pickAnd (odw rfl hG) fun hg => odw rfl (and_mk hG hg)) ?_
    refine cg (sp_pickOr (od rfl) fun hg => odw rfl (not_t hg)) ?_
    refine sn fun a w hS => ?_
    refine et ?_
    refine st_cond hS rfl (fun hb => ?_) (fun hb => ?_)
    · have h := ite_t hb h
      refine ws ?_
      refine st_reg mixed (by kernel_rfl) hS ?_
      refine cg (sp_assign (odb)) ?_
      refine sn fun a w hS => ?_
      refine et ?_
      refine wp_ret ?_
      refine exit_blockR ?_
      refine exit_thenR ?_
      cases h
      obtain rfl := hL_2 _ rfl
      have h := (sum_inr hr_4)
      refine exit_thenR ?_
      refine exit_blockR ?_
      refine exit_thenR ?_
      cases h
      exact st_ret hS (run_results1 Try.results88 a w) (hS.get rfl)
    have h := ite_f hb h
    refine wp_skip ?_
    refine exit_block ?_
    refine et ?_
    refine st_reg mixed (by kernel_rfl) hS ?_
    refine mv rfl ?_
    refine cg (sp_add (od rfl) (odi)) ?_
    refine cg (sp_assign (od rfl)) ?_
    refine sn fun a w hS => ?_
    cases h
    exact ⟨_, hN_2 _ rfl, hS.weak ⟨od rfl, od rfl, od rfl, trivial⟩⟩
  have h := ite_f hb h
  refine wp_exit ?_
  refine exit_thenE ?_
  cases h
  obtain rfl := hL_2 _ rfl
  have h := (sum_inl hr_4)
  refine exit_thenE ?_
  refine exit_here ?_
  refine et ?_
  refine ws ?_
  refine st_reg mixed (by kernel_rfl) hS ?_
  refine cg (sp_assign (odb)) ?_
  refine sn fun a w hS => ?_
  refine et ?_
  refine wp_ret ?_
  cases h
  exact st_ret hS (run_results1 Try.results88 a w) (hS.get rfl)

theorem f126_ok {p0 : List (List Int)} {p1 : ((List Int) → Option Bool)} {r : Int} (h : M.f126 p0 p1 = some r) : CallOK Try.prog 126 [isV p0, isV p1] (isV r) := by
  unfold M.f126 at h
  refine callS_of Try.func126 rfl Try.ntmps126 rfl fun F0 w0 a hS => ?_
  refine ws ?_
  refine st_reg mixed (by kernel_rfl) hS ?_
  refine cg (sp_assign (odi)) ?_
  refine sn fun a w hS => ?_
  refine et ?_
  refine ws ?_
  refine ws ?_
  refine st_reg mixed (by kernel_rfl) hS ?_
  refine mv rfl ?_
  refine cg (sp_len Try.underlying75 (od rfl)) ?_
  refine cg (sp_move (odi)) ?_
  refine sn fun a w hS => ?_
  refine et ?_
  refine wp_block ?_
  obtain ⟨o_4, e_5, hr_6⟩ := bind_some h
  refine c_loop (fun K a w => ∃ k i_1 s_3, K = k + 1 ∧ ForI _ _ _ o_4 k i_1 s_3 ∧ St 19 F0 [] [(0, isV (α := List (List Int)) p0), (1, isV (α := ((List Int) → Option Bool)) p1), (7, isV (α := Int) (p0.length : Int)), (8, isV (α := Int) i_1)] w0 a w) ?_ ?_ ⟨_, _, _, rfl, for_init e_5, hS.weak ⟨od rfl, od rfl, od rfl, od rfl, trivial⟩⟩
  · rintro a w ⟨_, _, _, hk, _⟩; cases hk
  rintro K a w ⟨k_4, i_1, s_3, hk, hF_4, hS⟩
  obtain rfl := Nat.succ.inj hk
  refine ws ?_
  refine st_reg mixed (by kernel_rfl) hS ?_
  refine cg (sp_lss (od rfl) (od rfl)) ?_
  refine sn fun a w hS => ?_
  refine et ?_
  refine ws ?_
  refine st_cond hS rfl (fun hb => ?_) (fun hb => ?_)
  · refine wp_skip ?_
    refine et ?_
    obtain ⟨k_4, o, rfl, h, hN_4, hL_4, hw_4⟩ := for_more hF_4 hb
    refine ws ?_
    refine wp_block ?_
    refine ws ?_
    refine st_reg mixed (by kernel_rfl) hS ?_
    refine mv rfl ?_
    refine cg (sp_assign (od rfl)) ?_
    refine sn fun a w hS => ?_
    refine et ?_
    refine ws ?_
    obtain ⟨v_7, e_8, h⟩ := bind_some h
    obtain ⟨v_9, e_10, h⟩ := bind_some h
    refine st_reg mixed (by kernel_rfl) hS ?_
    refine mv rfl ?_
    refine mv rfl ?_
    refine mv rfl ?_
    refine cg (sp_indexAddr sl75 (od rfl) (od rfl) e_8) ?_
    refine cg (sp_load ty27 (od rfl)) ?_
    refine cg (sp_callV (od_fn137 (od rfl)) ⟨od rfl, trivial⟩ e_10) ?_
    refine sn fun a w hS => ?_
    refine et ?_
    refine st_cond hS rfl (fun hb => ?_) (fun hb => ?_)
    · have h := ite_t hb h
      refine ws ?_
      refine st_reg mixed (by kernel_rfl) hS ?_
      refine mv rfl ?_
      refine cg (sp_assign (od rfl)) ?_
      refine sn fun a w hS => ?_
      refine et ?_
      refine wp_ret ?_
      refine exit_blockR ?_
      refine exit_thenR ?_
      cases h
      obtain rfl := hL_4 _ rfl
      have h := (elim_leave hr_6)
      refine exit_thenR ?_
      refine exit_blockR ?_
      refine exit_thenR ?_
      cases h
      exact st_ret hS (run_results1 Try.results126 a w) (hS.get rfl)
    have h := ite_f hb h
    refine wp_skip ?_
    refine exit_block ?_
    refine et ?_
    refine st_reg mixed (by kernel_rfl) hS ?_
    refine cg (sp_add (od rfl) (odi)) ?_
    refine mv rfl ?_
    refine sn fun a w hS => ?_
    cases h
    exact ⟨k_4, _, _, rfl, hN_4 _ rfl, hS.weak ⟨od rfl, od rfl, od rfl, od (congrArg (fun z => some (isV (α := Int) z)) hw_4), trivial⟩⟩
  refine wp_exit ?_
  obtain rfl := for_done hF_4 hb
  have h := elim_again hr_6
  refine exit_thenE ?_
  refine exit_thenE ?_
  refine exit_here ?_
  refine et ?_
  refine ws ?_
  refine st_reg mixed (by kernel_rfl) hS ?_
  refine cg (sp_assign (odi)) ?_
  refine sn fun a w hS => ?_
  refine et ?_
  refine wp_ret ?_
  cases h
  exact st_ret hS (run_results1 Try.results126 a w) (hS.get rfl)

theorem f106_ok {p0 : List (List Int)} {p1 : ((List Int) → Option Bool)} {r : Bool} (h : M.f106 p0 p1 = some r) : CallOK Try.prog 106 [isV p0, isV p1] (isV r) := by
  unfold M.f106 at h
  refine callS_of Try.func106 rfl Try.ntmps106 rfl fun F0 w0 a hS => ?_
  refine ws ?_
  refine st_reg mixed (by kernel_rfl) hS ?_
  refine cg (sp_assign (odb)) ?_
  refine sn fun a w hS => ?_
  refine et ?_
  refine ws ?_
  obtain ⟨v_1, e_2, h⟩ := bind_some h
  refine st_reg mixed (by kernel_rfl) hS ?_
  refine mv rfl ?_
  refine mv rfl ?_
  refine cg (sp_call en126 (f126_ok e_2) ⟨od rfl, od rfl, trivial⟩) ?_
  refine cg (sp_geq (od rfl) (odi)) ?_
  refine cg (sp_assign (od rfl)) ?_
  refine sn fun a w hS => ?_
  refine et ?_
  refine wp_ret ?_
  cases h
  exact st_ret hS (run_results1 Try.results106 a w) (hS.get rfl)

theorem f107_ok {p0 : List Int} {r : Bool} (h : M.f107 p0 = some r) : CallOK Try.prog 107 [isV p0] (isV r) := by
  unfold M.f107 at h
  refine callS_of Try.func107 rfl Try.ntmps107 rfl fun F0 w0 a hS => ?_
  refine ws ?_
  refine st_reg mixed (by kernel_rfl) hS ?_
  refine cg (sp_assign (odb)) ?_
  refine sn fun a w hS => ?_
  refine et ?_
  refine ws ?_
  refine st_reg mixed (by kernel_rfl) hS ?_
  refine mv rfl ?_
  refine cg (sp_len Try.underlying27 (od rfl)) ?_
  refine cg (sp_gtr (od rfl) (odi)) ?_
  refine cg (sp_assign (od rfl)) ?_
  refine sn fun a w hS => ?_
  refine et ?_
  refine wp_ret ?_
  cases h
  exact st_ret hS (run_results1 Try.results107 a w) (hS.get rfl)

theorem f55_ok {p0 : List (List Int)} {r : Bool} (h : M.f55 p0 = some r) : CallOK Try.prog 55 [isV p0] (isV r) := by
  unfold M.f55 at h
  refine callS_of Try.func55 rfl Try.ntmps55 rfl fun F0 w0 a hS => ?_
  refine ws ?_
  refine st_reg mixed (by kernel_rfl) hS ?_
  refine cg (sp_assign (odb)) ?_
  refine sn fun a w hS => ?_
  refine et ?_
  refine ws ?_
  obtain ⟨v_1, e_2, h⟩ := bind_some h
  refine st_reg mixed (by kernel_rfl) hS ?_
  refine mv rfl ?_
  refine cg (sp_call en106 (f106_ok e_2) ⟨od rfl, of_fn137 (f := (fun x0 => M.f107 x0)) en107 (fun _ _ h => f107_ok h), trivial⟩) ?_
  refine cg (sp_not (od rfl)) ?_
  refine cg (sp_assign (od rfl)) ?_
  refine sn fun a w hS => ?_
  refine et ?_
  refine wp_ret ?_
  cases h
  exact st_ret hS (run_results1 Try.results55 a w) (hS.get rfl)

theorem f90_ok {p0 : Int} {c0 : S_api_Market} {r : Bool} (h : M.f90 p0 c0 = some r) : CallOK Try.prog 90 [isV p0, isA c0] (isV r) := by
  unfold M.f90 at h
  refine callS_of Try.func90 rfl Try.ntmps90 rfl fun F0 w0 a hS => ?_
  refine ws ?_
  refine st_reg mixed (by kernel_rfl) hS ?_
  refine cg (sp_assign (odb)) ?_
  refine sn fun a w hS => ?_
  refine et ?_
  refine ws ?_
  refine st_reg mixed (by kernel_rfl) hS ?_
  refine mv rfl ?_
  refine cg (sp_lss (od rfl) (odi)) ?_
  refine mv rfl ?_
  refine sc (sgF rfl fun hG => sp_move (od rfl)) ?_
  refine sc (sgF rfl fun hG => sp_fieldAddr fd24_0 (od rfl)) ?_
  refine sc (sgF rfl fun hG => sp_load ty3 (odw rfl hG)) ?_
  refine sc (sgF rfl fun hG => sp_geq (odw rfl hG) (odw rfl hG)) ?_
  refine cg (sp_pickOr (od rfl) fun hg => odw rfl (not_t hg)) ?_
  refine cg (sp_assign (od rfl)) ?_
  refine sn fun a w hS => ?_
  refine et ?_
  refine wp_ret ?_
  cases h
  exact st_ret hS (run_results1 Try.results90 a w) (hS.get rfl)

theorem f121_ok {p0 : List Int} {p1 : (Int → Option Bool)} {r : Int} (h : M.f121 p0 p1 = some r) : CallOK Try.prog 121 [isV p0, isV p1] (isV r) := by
  unfold M.f121 at h
  refine callS_of Try.func121 rfl Try.ntmps121 rfl fun F0 w0 a hS => ?_
  refine ws ?_
  refine st_reg mixed (by kernel_rfl) hS ?_
  refine cg (sp_assign (odi)) ?_
  refine sn fun a w hS => ?_
  refine et ?_
  refine ws ?_
  refine ws ?_
  refine st_reg mixed (by kernel_rfl) hS ?_
  refine mv rfl ?_
  refine cg (sp_len Try.underlying27 (od rfl)) ?_
  refine cg (sp_move (odi)) ?_
  refine sn fun a w hS => ?_
  refine et ?_
  refine wp_block ?_
  obtain ⟨o_4, e_5, hr_6⟩ := bind_some h
  refine c_loop (fun K a w => ∃ k i_1 s_3, K = k + 1 ∧ ForI _ _ _ o_4 k i_1 s_3 ∧ St 19 F0 [] [(0, isV (α := List Int) p0), (1, isV (α := (Int → Option Bool)) p1), (7, isV (α := Int) (p0.length : Int)), (8, isV (α := Int) i_1)] w0 a w) ?_ ?_ ⟨_, _, _, rfl, for_init e_5, hS.weak ⟨od rfl, od rfl, od rfl, od rfl, trivial⟩⟩
  · rintro a w ⟨_, _, _, hk, _⟩; cases hk
  rintro K a w ⟨k_4, i_1, s_3, hk, hF_4, hS⟩
  obtain rfl := Nat.succ.inj hk
  refine ws ?_
  refine st_reg mixed (by kernel_rfl) hS ?_
  refine cg (sp_lss (od rfl) (od rfl)) ?_
  refine sn fun a w hS => ?_
  refine et ?_
  refine ws ?_
  refine st_cond hS rfl (fun hb => ?_) (fun hb => ?_)
  · refine wp_skip ?_
    refine et ?_
    obtain ⟨k_4, o, rfl, h, hN_4, hL_4, hw_4⟩ := for_more hF_4 hb
    refine ws ?_
    refine wp_block ?_
    refine ws ?_
    refine st_reg mixed (by kernel_rfl) hS ?_
    refine mv rfl ?_
    refine cg (sp_assign (od rfl)) ?_
    refine sn fun a w hS => ?_
    refine et ?_
    refine ws ?_
    obtain ⟨v_7, e_8, h⟩ := bind_some h
    obtain ⟨v_9, e_10, h⟩ := bind_some h
    refine st_reg mixed (by kernel_rfl) hS ?_
    refine mv rfl ?_
    refine mv rfl ?_
    refine mv rfl ?_
    refine cg (sp_indexAddr sl27 (od rfl) (od rfl) e_8) ?_
    refine cg (sp_load ty3 (od rfl)) ?_
    refine cg (sp_callV (od_fn121 (od rfl)) ⟨od rfl, trivial⟩ e_10) ?_
    refine sn fun a w hS => ?_
    refine et ?_
    refine st_cond hS rfl (fun hb => ?_) (fun hb => ?_)
    · have h := ite_t hb h
      refine ws ?_
      refine st_reg mixed (by kernel_rfl) hS ?_
      refine mv rfl ?_
      refine cg (sp_assign (od rfl)) ?_
      refine sn fun a w hS => ?_
      refine et ?_
      refine wp_ret ?_
      refine exit_blockR ?_
      refine exit_thenR ?_
      cases h
      obtain rfl := hL_4 _ rfl
      have h := (elim_leave hr_6)
      refine exit_thenR ?_
      refine exit_blockR ?_
      refine exit_thenR ?_
      cases h
      exact st_ret hS (run_results1 Try.results121 a w) (hS.get rfl)
    have h := ite_f hb h
    refine wp_skip ?_
    refine exit_block ?_
    refine et ?_
    refine st_reg mixed (by kernel_rfl) hS ?_
    refine cg (sp_add (od rfl) (odi)) ?_
    refine mv rfl ?_
    refine sn fun a w hS => ?_
    cases h
    exact ⟨k_4, _, _, rfl, hN_4 _ rfl, hS.weak ⟨od rfl, od rfl, od rfl, od (congrArg (fun z => some (isV (α := Int) z)) hw_4), trivial⟩⟩
  refine wp_exit ?_
  obtain rfl := for_done hF_4 hb
  have h := elim_again hr_6
  refine exit_thenE ?_
  refine exit_thenE ?_
  refine exit_here ?_
  refine et ?_
  refine ws ?_
  refine st_reg mixed (by kernel_rfl) hS ?_
  refine cg (sp_assign (odi)) ?_
  refine sn fun a w hS => ?_
  refine et ?_
  refine wp_ret ?_
  cases h
  exact st_ret hS (run_results1 Try.results121 a w) (hS.get rfl)

theorem f89_ok {p0 : List Int} {p1 : (Int → Option Bool)} {r : Bool} (h : M.f89 p0 p1 = some r) : CallOK Try.prog 89 [isV p0, isV p1] (isV r) := by
  unfold M.f89 at h
  refine callS_of Try.func89 rfl Try.ntmps89 rfl fun F0 w0 a hS => ?_
  refine ws ?_
  refine st_reg mixed (by kernel_rfl) hS ?_
  refine cg (sp_assign (odb)) ?_
  refine sn fun a w hS => ?_
  refine et ?_
  refine ws ?_
  obtain ⟨v_1, e_2, h⟩ := bind_some h
  refine st_reg mixed (by kernel_rfl) hS ?_
  refine mv rfl ?_
  refine mv rfl ?_
  refine cg (sp_call en121 (f121_ok e_2) ⟨od rfl, od rfl, trivial⟩) ?_
  refine cg (sp_geq (od rfl) (odi)) ?_
  refine cg (sp_assign (od rfl)) ?_
  refine sn fun a w hS => ?_
  refine et ?_
  refine wp_ret ?_
  cases h
  exact st_ret hS (run_results1 Try.results89 a w) (hS.get rfl)

theorem f31_ok {fuel : Nat} {p0 : S_api_Market} {p1 : List Int} {p2 : List Int} {r : Bool} (h : M.f31 fuel p0 p1 p2 = some r) : CallOK Try.prog 31 [isV p0, isV p1, isV p2] (isV r) := by
  unfold M.f31 at h
  refine callS_of Try.func31 rfl Try.ntmps31 rfl fun F0 w0 a hS => ?_
  refine ws ?_
  refine st_reg mixed (by kernel_rfl) hS ?_
  refine cg (sp_box (od rfl)) ?_
  refine cg (sp_assign (odb)) ?_
  refine sn fun a w hS => ?_
  refine et ?_
  refine ws ?_
  refine ws ?_
  obtain ⟨v_1, e_2, h⟩ := bind_some h
  obtain ⟨v_3, e_4, h⟩ := bind_some h
  obtain ⟨v_5, e_6, h⟩ := bind_some h
  obtain ⟨v_7, e_8, h⟩ := bind_some h
  obtain ⟨v_9, e_10, h⟩ := bind_some h
  refine st_reg mixed (by kernel_rfl) hS ?_
  refine cg (sp_load ty24 (od rfl)) ?_
  refine cg (sp_call en17 (f17_ok e_2) ⟨od rfl, trivial⟩) ?_
  refine cg (sp_not (od rfl)) ?_
  refine mv rfl ?_
  refine sc (sgF rfl fun hG => sp_move (od rfl)) ?_
  refine sc (sgF rfl fun hG => sp_buildSlice [.tmp 11] ([p1] : List (List Int)) sl75 ze27 rfl rfl rfl rfl ⟨odw rfl hG, trivial⟩) ?_
  refine sc (sgF rfl fun hG => sp_call en55 (f55_ok (guard_some e_4 hG)) ⟨odw rfl hG, trivial⟩) ?_
  refine sc (sgF rfl fun hG => sp_not (odw rfl hG)) ?_
  refine cg (sp_pickOr (od rfl) fun hg => odw rfl (not_t hg)) ?_
  refine mv rfl ?_
  refine sc (sgF rfl fun hG => sp_load ty24 (od rfl)) ?_
  refine sc (sgF rfl fun hG => sp_call en41 (f41_ok (guard_some e_6 hG)) ⟨odw rfl hG, trivial⟩) ?_
  refine sc (sgF rfl fun hG => sp_neq (odw rfl hG) (odi)) ?_
  refine cg (sp_pickOr (od rfl) fun hg => odw rfl (not_t hg)) ?_
  refine mv rfl ?_
  refine sc (sgF rfl fun hG => sp_load ty24 (od rfl)) ?_
  refine sc (sgF rfl fun hG => sp_call en42 (f42_ok (guard_some e_8 hG)) ⟨odw rfl hG, trivial⟩) ?_
  refine sc (sgF rfl fun hG => sp_neq (odw rfl hG) (odi)) ?_
  refine cg (sp_pickOr (od rfl) fun hg => odw rfl (not_t hg)) ?_
  refine mv rfl ?_
  refine sc (sgF rfl fun hG => sp_load ty24 (od rfl)) ?_
  refine sc (sgF rfl fun hG => sp_move (od rfl)) ?_
  refine sc (sgF rfl fun hG => sp_call en88 (f88_ok (guard_some e_10 hG)) ⟨odw rfl hG, odw rfl hG, trivial⟩) ?_
  refine sc (sgF rfl fun hG => sp_not (odw rfl hG)) ?_
  refine cg (sp_pickOr (od rfl) fun hg => odw rfl (not_t hg)) ?_
  refine sn fun a w hS => ?_
  refine et ?_
  refine st_cond hS rfl (fun hb => ?_) (fun hb => ?_)
  · have h := ite_t hb h
    refine ws ?_
    refine st_reg mixed (by kernel_rfl) hS ?_
    refine cg (sp_assign (odb)) ?_
    refine sn fun a w hS => ?_
    refine et ?_
    refine wp_ret ?_
    refine exit_thenR ?_
    cases h
    exact st_ret hS (run_results1 Try.results31 a w) (hS.get rfl)
  have h := ite_f hb h
  refine wp_skip ?_
  refine et ?_
  refine ws ?_
  obtain ⟨v_11, e_12, h⟩ := bind_some h
  refine st_reg mixed (by kernel_rfl) hS ?_
  refine mv rfl ?_
  refine cg (mk_fn121 (f := (fun x0 => M.f90 x0 p0)) (κs := [isA (α := S_api_Market) p0]) ⟨fun _ _ _ _ h => h, trivial⟩ en90 ⟨od rfl, trivial⟩ (fun _ _ h => f90_ok h)) ?_
  refine cg (sp_call en89 (f89_ok e_12) ⟨od rfl, od rfl, trivial⟩) ?_
  refine cg (sp_not (od rfl)) ?_
  refine cg (sp_assign (od rfl)) ?_
  refine sn fun a w hS => ?_
  refine et ?_
  refine wp_ret ?_
  cases h
  exact st_ret hS (run_results1 Try.results31 a w) (hS.get rfl)

end Go.Proofs.Ytkbilbeaedocjaa
