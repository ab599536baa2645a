/-
  What is proved: each Go function named here returns what its model tells, and changes nothing that was there; where the model tells something.
-/
import Derived.Test.YtkbilbeaedocjaaWalkK
import Derived.Test.YtkbilbeaedocjaaModelF
set_option linter.unusedVariables false
set_option maxRecDepth 100000
namespace Go.Proofs.Ytkbilbeaedocjaa
open Go Go.RowKit Go.Proofs.Ytkbilbeaedocjaa.Wh

theorem f9_ok {fuel : Nat} {p0 : S_api_Market} {p1 : Int} {p2 : Int} {p3 : Int} {r : Bool} (h : M.f9 fuel p0 p1 p2 p3 = some r) : CallOK Try.prog 9 [isV p0, isV p1, isV p2, isV p3] (isV r) := by
  unfold M.f9 at h
  refine callS_of Try.func9 rfl Try.ntmps9 rfl fun F0 w0 a hS => ?_
  refine wp_seq ?_
  refine st_reg mixed (by kernel_rfl) hS ?_
  refine sc (sg (sp_box (od rfl))) ?_
  refine sc (sg (sp_assign (odb))) ?_
  refine sn fun a w hS => ?_
  refine exit_then ?_
  refine wp_seq ?_
  refine wp_seq ?_
  obtain ⟨v_1, e_2, h⟩ := bind_some h
  refine st_reg mixed (by kernel_rfl) hS ?_
  refine sc (sg (sp_call en16 (f16_ok e_2) trivial)) ?_
  refine sc (sg (sp_not (od rfl))) ?_
  refine sn fun a w hS => ?_
  refine exit_then ?_
  refine st_cond hS rfl (fun hb => ?_) (fun hb => ?_)
  · have h := ite_t hb h
    refine wp_seq ?_
    refine st_reg mixed (by kernel_rfl) hS ?_
    refine sc (sg (sp_assign (odb))) ?_
    refine sn fun a w hS => ?_
    refine exit_then ?_
    refine wp_ret ?_
    refine exit_thenR ?_
    cases h
    exact st_ret hS (run_results1 Try.results9 a w) (hS.get rfl)
  · have h := ite_f hb h
    refine wp_skip ?_
    refine exit_then ?_
    refine wp_seq ?_
    refine wp_seq ?_
    obtain ⟨v_3, e_4, h⟩ := bind_some h
    refine st_reg mixed (by kernel_rfl) hS ?_
    refine sc (sg (sp_load ty24 (od rfl))) ?_
    refine sc (sg (sp_move (od rfl))) ?_
    refine sc (sg (sp_move (od rfl))) ?_
    refine sc (sg (sp_buildSlice [.tmp 29, .tmp 30] ([p1, p2] : List Int) sl27 ze3 rfl rfl rfl rfl ⟨od rfl, od rfl, trivial⟩)) ?_
    refine sc (sg (sp_call en31 (f31_ok e_4) ⟨od rfl, odnil (α := Int), od rfl, trivial⟩)) ?_
    refine sc (sg (sp_not (od rfl))) ?_
    refine sc (sg (sp_move (od rfl))) ?_
    refine sc (sgF rfl fun hG => sp_move (od rfl)) ?_
    refine sc (sgF rfl fun hG => sp_lss (odw rfl hG) (odi)) ?_
    refine sc (sg (sp_pickOr (od rfl) fun hg => odw rfl (not_t hg))) ?_
    refine sc (sg (sp_move (od rfl))) ?_
    refine sc (sgF rfl fun hG => sp_move (od rfl)) ?_
    refine sc (sgF rfl fun hG => sp_gtr (odw rfl hG) (odi)) ?_
    refine sc (sg (sp_pickOr (od rfl) fun hg => odw rfl (not_t hg))) ?_
    refine sn fun a w hS => ?_
    refine exit_then ?_
    refine st_cond hS rfl (fun hb => ?_) (fun hb => ?_)
    · have h := ite_t hb h
      refine wp_seq ?_
      refine st_reg mixed (by kernel_rfl) hS ?_
      refine sc (sg (sp_assign (odb))) ?_
      refine sn fun a w hS => ?_
      refine exit_then ?_
      refine wp_ret ?_
      refine exit_thenR ?_
      cases h
      exact st_ret hS (run_results1 Try.results9 a w) (hS.get rfl)
    · have h := ite_f hb h
      refine wp_skip ?_
      refine exit_then ?_
      refine wp_seq ?_
      obtain ⟨v_5, e_6, h⟩ := bind_some h
      refine st_reg mixed (by kernel_rfl) hS ?_
      refine sc (sg (sp_load ty24 (od rfl))) ?_
      refine sc (sg (sp_move (od rfl))) ?_
      refine sc (sg (sp_call en27 (f27_ok e_6) ⟨od rfl, od rfl, trivial⟩)) ?_
      refine sc (sg (sp_move (od rfl))) ?_
      refine sc (sg (sp_extract (od rfl) rfl)) ?_
      refine sc (sg (sp_extract (od rfl) rfl)) ?_
      refine sc (sg (sp_extract (od rfl) rfl)) ?_
      refine sc (sg (sp_assign (od rfl))) ?_
      refine sc (sg (sp_assign (od rfl))) ?_
      refine sc (sg (sp_assign (od rfl))) ?_
      refine sn fun a w hS => ?_
      refine exit_then ?_
      refine wp_seq ?_
      obtain ⟨v_7, e_8, h⟩ := bind_some h
      refine st_reg mixed (by kernel_rfl) hS ?_
      refine sc (sg (sp_load ty24 (od rfl))) ?_
      refine sc (sg (sp_move (od rfl))) ?_
      refine sc (sg (sp_move (od rfl))) ?_
      refine sc (sg (sp_move (od rfl))) ?_
      refine sc (sg (sp_call en25 (f25_ok e_8) ⟨od rfl, od rfl, od rfl, od rfl, trivial⟩)) ?_
      refine sc (sg (sp_move (od rfl))) ?_
      refine sc (sg (sp_extract (od rfl) rfl)) ?_
      refine sc (sg (sp_extract (od rfl) rfl)) ?_
      refine sc (sg (sp_extract (od rfl) rfl)) ?_
      refine sc (sg (sp_assign (od rfl))) ?_
      refine sc (sg (sp_assign (od rfl))) ?_
      refine sc (sg (sp_assign (od rfl))) ?_
      refine sn fun a w hS => ?_
      refine exit_then ?_
      refine wp_seq ?_
      obtain ⟨v_9, e_10, h⟩ := bind_some h
      refine st_reg mixed (by kernel_rfl) hS ?_
      refine sc (sg (sp_load ty24 (od rfl))) ?_
      refine sc (sg (sp_call en29 (f29_ok e_10) ⟨od rfl, trivial⟩)) ?_
      refine sc (sg (sp_move (od rfl))) ?_
      refine sc (sg (sp_extract (od rfl) rfl)) ?_
      refine sc (sg (sp_extract (od rfl) rfl)) ?_
      refine sc (sg (sp_extract (od rfl) rfl)) ?_
      refine sc (sg (sp_assign (od rfl))) ?_
      refine sc (sg (sp_assign (od rfl))) ?_
      refine sc (sg (sp_assign (od rfl))) ?_
      refine sn fun a w hS => ?_
      refine exit_then ?_
      refine wp_seq ?_
      obtain ⟨v_11, e_12, h⟩ := bind_some h
      refine st_reg mixed (by kernel_rfl) hS ?_
      refine sc (sg (sp_load ty24 (od rfl))) ?_
      refine sc (sg (sp_call en27 (f27_ok e_12) ⟨od rfl, odi, trivial⟩)) ?_
      refine sc (sg (sp_move (od rfl))) ?_
      refine sc (sg (sp_extract (od rfl) rfl)) ?_
      refine sc (sg (sp_extract (od rfl) rfl)) ?_
      refine sc (sg (sp_extract (od rfl) rfl)) ?_
      refine sc (sg (sp_assign (od rfl))) ?_
      refine sc (sg (sp_assign (od rfl))) ?_
      refine sc (sg (sp_assign (od rfl))) ?_
      refine sn fun a w hS => ?_
      refine exit_then ?_
      refine wp_seq ?_
      refine wp_seq ?_
      obtain ⟨v_13, e_14, h⟩ := bind_some h
      refine st_reg mixed (by kernel_rfl) hS ?_
      refine sc (sg (sp_move (od rfl))) ?_
      refine sc (sg (sp_neq (od rfl) (odi))) ?_
      refine sc (sg (sp_move (od rfl))) ?_
      refine sc (sgF rfl fun hG => sp_move (od rfl)) ?_
      refine sc (sgF rfl fun hG => sp_neq (odw rfl hG) (odi)) ?_
      refine sc (sg (sp_pickOr (od rfl) fun hg => odw rfl (not_t hg))) ?_
      refine sc (sg (sp_move (od rfl))) ?_
      refine sc (sgF rfl fun hG => sp_move (od rfl)) ?_
      refine sc (sgF rfl fun hG => sp_neq (odw rfl hG) (odi)) ?_
      refine sc (sg (sp_pickOr (od rfl) fun hg => odw rfl (not_t hg))) ?_
      refine sc (sg (sp_move (od rfl))) ?_
      refine sc (sgF rfl fun hG => sp_move (od rfl)) ?_
      refine sc (sgF rfl fun hG => sp_neq (odw rfl hG) (odi)) ?_
      refine sc (sg (sp_pickOr (od rfl) fun hg => odw rfl (not_t hg))) ?_
      refine sc (sg (sp_move (od rfl))) ?_
      refine sc (sgF rfl fun hG => sp_move (od rfl)) ?_
      refine sc (sgF rfl fun hG => sp_move (od rfl)) ?_
      refine sc (sgF rfl fun hG => sp_call en24 (f24_ok (guard_some e_14 hG)) ⟨odw rfl hG, odw rfl hG, trivial⟩) ?_
      refine sc (sgF rfl fun hG => sp_not (odw rfl hG)) ?_
      refine sc (sg (sp_pickOr (od rfl) fun hg => odw rfl (not_t hg))) ?_
      refine sc (sg (sp_move (od rfl))) ?_
      refine sc (sgF rfl fun hG => sp_move (od rfl)) ?_
      refine sc (sgF rfl fun hG => sp_move (od rfl)) ?_
      refine sc (sgF rfl fun hG => sp_neqB Try.underlying4 (odw rfl hG) (odw rfl hG)) ?_
      refine sc (sg (sp_pickOr (od rfl) fun hg => odw rfl (not_t hg))) ?_
      refine sc (sg (sp_move (od rfl))) ?_
      refine sc (sgF rfl fun hG => sp_move (od rfl)) ?_
      refine sc (sgF rfl fun hG => sp_move (odw rfl hG)) ?_
      refine sc (sgwT rfl fun hG => sp_move (od rfl)) ?_
      refine sc (sgwT rfl fun hG => sp_not (odw rfl hG)) ?_
      refine sc (sgwT rfl fun hG => sp_move (odw rfl hG)) ?_
      refine sc (sgwF rfl fun hG => sp_move (od rfl)) ?_
      refine sc (sgwF rfl fun hG => sp_not (odw rfl hG)) ?_
      refine sc (sgwT rfl fun hG => sp_pickOr (odw rfl hG) fun hg => odw rfl (and_mk hG (not_t hg))) ?_
      refine sc (sgF rfl fun hG => sp_pickAnd (odw rfl hG) fun hg => odw rfl (and_mk hG hg)) ?_
      refine sc (sg (sp_pickOr (od rfl) fun hg => odw rfl (not_t hg))) ?_
      refine sc (sg (sp_move (od rfl))) ?_
      refine sc (sgF rfl fun hG => sp_move (od rfl)) ?_
      refine sc (sgF rfl fun hG => sp_len Try.underlying27 (odw rfl hG)) ?_
      refine sc (sgF rfl fun hG => sp_fieldAddr fd24_0 (od rfl)) ?_
      refine sc (sgF rfl fun hG => sp_load ty3 (odw rfl hG)) ?_
      refine sc (sgF rfl fun hG => sp_geq (odw rfl hG) (odw rfl hG)) ?_
      refine sc (sg (sp_pickOr (od rfl) fun hg => odw rfl (not_t hg))) ?_
      refine sn fun a w hS => ?_
      refine exit_then ?_
      refine st_cond hS rfl (fun hb => ?_) (fun hb => ?_)
      · have h := ite_t hb h
        refine wp_seq ?_
        refine st_reg mixed (by kernel_rfl) hS ?_
        refine sc (sg (sp_assign (odb))) ?_
        refine sn fun a w hS => ?_
        refine exit_then ?_
        refine wp_ret ?_
        refine exit_thenR ?_
        cases h
        exact st_ret hS (run_results1 Try.results9 a w) (hS.get rfl)
      · have h := ite_f hb h
        refine wp_skip ?_
        refine exit_then ?_
        refine wp_seq ?_
        refine wp_seq ?_
        refine st_reg mixed (by kernel_rfl) hS ?_
        refine sc (sg (sp_move (od rfl))) ?_
        refine sc (sg (sp_not (od rfl))) ?_
        refine sn fun a w hS => ?_
        refine exit_then ?_
        refine st_cond hS rfl (fun hb => ?_) (fun hb => ?_)
        · have h := ite_t hb h
          refine wp_seq ?_
          refine st_reg mixed (by kernel_rfl) hS ?_
          refine sc (sg (sp_move (od rfl))) ?_
          refine sc (sg (sp_len Try.underlying27 (od rfl))) ?_
          refine sc (sg (sp_eql (od rfl) (odi))) ?_
          refine sc (sg (sp_assign (od rfl))) ?_
          refine sn fun a w hS => ?_
          refine exit_then ?_
          refine wp_ret ?_
          refine exit_thenR ?_
          cases h
          exact st_ret hS (run_results1 Try.results9 a w) (hS.get rfl)
        · have h := ite_f hb h
          refine wp_skip ?_
          refine exit_then ?_
          refine wp_seq ?_
          obtain ⟨v_15, e_16, h⟩ := bind_some h
          refine st_reg mixed (by kernel_rfl) hS ?_
          refine sc (sg (sp_load ty24 (od rfl))) ?_
          refine sc (sg (sp_move (od rfl))) ?_
          refine sc (sg (sp_call en37 (f37_ok e_16) ⟨od rfl, od rfl, trivial⟩)) ?_
          refine sc (sg (sp_move (od rfl))) ?_
          refine sc (sg (sp_extract (od rfl) rfl)) ?_
          refine sc (sg (sp_extract (od rfl) rfl)) ?_
          refine sc (sg (sp_assign (od rfl))) ?_
          refine sc (sg (sp_assign (od rfl))) ?_
          refine sn fun a w hS => ?_
          refine exit_then ?_
          refine wp_seq ?_
          obtain ⟨v_17, e_18, h⟩ := bind_some h
          refine st_reg mixed (by kernel_rfl) hS ?_
          refine sc (sg (sp_load ty24 (od rfl))) ?_
          refine sc (sg (sp_move (od rfl))) ?_
          refine sc (sg (sp_call en37 (f37_ok e_18) ⟨od rfl, od rfl, trivial⟩)) ?_
          refine sc (sg (sp_move (od rfl))) ?_
          refine sc (sg (sp_extract (od rfl) rfl)) ?_
          refine sc (sg (sp_extract (od rfl) rfl)) ?_
          refine sc (sg (sp_assign (od rfl))) ?_
          refine sc (sg (sp_assign (od rfl))) ?_
          refine sn fun a w hS => ?_
          refine exit_then ?_
          refine wp_seq ?_
          obtain ⟨v_19, e_20, h⟩ := bind_some h
          refine st_reg mixed (by kernel_rfl) hS ?_
          refine sc (sg (sp_load ty24 (od rfl))) ?_
          refine sc (sg (sp_move (od rfl))) ?_
          refine sc (sg (sp_call en37 (f37_ok e_20) ⟨od rfl, od rfl, trivial⟩)) ?_
          refine sc (sg (sp_move (od rfl))) ?_
          refine sc (sg (sp_extract (od rfl) rfl)) ?_
          refine sc (sg (sp_extract (od rfl) rfl)) ?_
          refine sc (sg (sp_assign (od rfl))) ?_
          refine sc (sg (sp_assign (od rfl))) ?_
          refine sn fun a w hS => ?_
          refine exit_then ?_
          refine wp_seq ?_
          obtain ⟨v_21, e_22, h⟩ := bind_some h
          refine st_reg mixed (by kernel_rfl) hS ?_
          refine sc (sg (sp_load ty24 (od rfl))) ?_
          refine sc (sg (sp_move (od rfl))) ?_
          refine sc (sg (sp_move (od rfl))) ?_
          refine sc (sg (sp_move (od rfl))) ?_
          refine sc (sg (sp_call en33 (f33_ok e_22) ⟨od rfl, od rfl, od rfl, od rfl, trivial⟩)) ?_
          refine sc (sg (sp_move (od rfl))) ?_
          refine sc (sg (sp_extract (od rfl) rfl)) ?_
          refine sc (sg (sp_extract (od rfl) rfl)) ?_
          refine sc (sg (sp_extract (od rfl) rfl)) ?_
          refine sc (sg (sp_assign (od rfl))) ?_
          refine sc (sg (sp_assign (od rfl))) ?_
          refine sc (sg (sp_assign (od rfl))) ?_
          refine sn fun a w hS => ?_
          refine exit_then ?_
          refine wp_seq ?_
          refine st_reg mixed (by kernel_rfl) hS ?_
          refine sc (sg (sp_move (od rfl))) ?_
          refine sc (sg (sp_eql (od rfl) (odi))) ?_
          refine sc (sg (sp_move (od rfl))) ?_
          refine sc (sgT rfl fun hG => sp_move (od rfl)) ?_
          refine sc (sgT rfl fun hG => sp_eql (odw rfl hG) (odi)) ?_
          refine sc (sg (sp_pickAnd (od rfl) fun hg => odw rfl hg)) ?_
          refine sc (sg (sp_move (od rfl))) ?_
          refine sc (sgT rfl fun hG => sp_move (od rfl)) ?_
          refine sc (sgT rfl fun hG => sp_eql (odw rfl hG) (odi)) ?_
          refine sc (sg (sp_pickAnd (od rfl) fun hg => odw rfl hg)) ?_
          refine sc (sg (sp_move (od rfl))) ?_
          refine sc (sgT rfl fun hG => sp_move (od rfl)) ?_
          refine sc (sgT rfl fun hG => sp_eql (odw rfl hG) (odi)) ?_
          refine sc (sg (sp_pickAnd (od rfl) fun hg => odw rfl hg)) ?_
          refine sc (sg (sp_move (od rfl))) ?_
          refine sc (sgT rfl fun hG => sp_move (od rfl)) ?_
          refine sc (sgT rfl fun hG => sp_move (od rfl)) ?_
          refine sc (sgT rfl fun hG => sp_geq (odw rfl hG) (odw rfl hG)) ?_
          refine sc (sg (sp_pickAnd (od rfl) fun hg => odw rfl hg)) ?_
          refine sc (sg (sp_move (od rfl))) ?_
          refine sc (sgT rfl fun hG => sp_move (od rfl)) ?_
          refine sc (sgT rfl fun hG => sp_move (od rfl)) ?_
          refine sc (sgT rfl fun hG => sp_geq (odw rfl hG) (odw rfl hG)) ?_
          refine sc (sg (sp_pickAnd (od rfl) fun hg => odw rfl hg)) ?_
          refine sc (sg (sp_move (od rfl))) ?_
          refine sc (sgT rfl fun hG => sp_move (od rfl)) ?_
          refine sc (sg (sp_pickAnd (od rfl) fun hg => odw rfl hg)) ?_
          refine sc (sg (sp_move (od rfl))) ?_
          refine sc (sgT rfl fun hG => sp_move (od rfl)) ?_
          refine sc (sgT rfl fun hG => sp_move (od rfl)) ?_
          refine sc (sgT rfl fun hG => sp_leq (odw rfl hG) (odw rfl hG)) ?_
          refine sc (sg (sp_pickAnd (od rfl) fun hg => odw rfl hg)) ?_
          refine sc (sg (sp_assign (od rfl))) ?_
          refine sn fun a w hS => ?_
          refine exit_then ?_
          refine wp_ret ?_
          cases h
          exact st_ret hS (run_results1 Try.results9 a w) (hS.get rfl)

theorem f100_ok {p0 : List Int} {p1 : Int} {r : Int} (h : M.f100 p0 p1 = some r) : CallOK Try.prog 100 [isV p0, isV p1] (isV r) := by
  unfold M.f100 at h
  refine callS_of Try.func100 rfl Try.ntmps100 rfl fun F0 w0 a hS => ?_
  refine wp_seq ?_
  refine st_reg mixed (by kernel_rfl) hS ?_
  refine sc (sg (sp_assign (odi))) ?_
  refine sn fun a w hS => ?_
  refine exit_then ?_
  refine wp_seq ?_
  refine wp_seq ?_
  refine st_reg mixed (by kernel_rfl) hS ?_
  refine sc (sg (sp_move (od rfl))) ?_
  refine sc (sg (sp_len Try.underlying27 (od rfl))) ?_
  refine sc (sg (sp_move (odi))) ?_
  refine sn fun a w hS => ?_
  refine exit_then ?_
  refine wp_block ?_
  obtain ⟨o_4, e_5, hr_6⟩ := bind_some h
  refine c_loop (fun K a w => ∃ k i_1 s_3, K = k + 1 ∧ ForI _ _ _ o_4 k i_1 s_3 ∧ St 19 F0 [] [(0, isV (α := List Int) p0), (1, isV (α := Int) p1), (7, isV (α := Int) (p0.length : Int)), (8, isV (α := Int) i_1)] w0 a w) ?_ ?_ ⟨_, _, _, rfl, for_init e_5, hS.weak ⟨od rfl, od rfl, od rfl, od rfl, trivial⟩⟩
  · rintro a w ⟨_, _, _, hk, _⟩; cases hk
  rintro K a w ⟨k_4, i_1, s_3, hk, hF_4, hS⟩
  obtain rfl := Nat.succ.inj hk
  refine wp_seq ?_
  refine st_reg mixed (by kernel_rfl) hS ?_
  refine sc (sg (sp_lss (od rfl) (od rfl))) ?_
  refine sn fun a w hS => ?_
  refine exit_then ?_
  refine wp_seq ?_
  refine st_cond hS rfl (fun hb => ?_) (fun hb => ?_)
  · refine wp_skip ?_
    refine exit_then ?_
    obtain ⟨k_4, o, rfl, h, hN_4, hL_4, hw_4⟩ := for_more hF_4 hb
    refine wp_seq ?_
    refine wp_block ?_
    refine wp_seq ?_
    refine st_reg mixed (by kernel_rfl) hS ?_
    refine sc (sg (sp_move (od rfl))) ?_
    refine sc (sg (sp_assign (od rfl))) ?_
    refine sn fun a w hS => ?_
    refine exit_then ?_
    refine wp_seq ?_
    obtain ⟨v_7, e_8, h⟩ := bind_some h
    refine st_reg mixed (by kernel_rfl) hS ?_
    refine sc (sg (sp_move (od rfl))) ?_
    refine sc (sg (sp_move (od rfl))) ?_
    refine sc (sg (sp_move (od rfl))) ?_
    refine sc (sg (sp_indexAddr sl27 (od rfl) (od rfl) e_8)) ?_
    refine sc (sg (sp_load ty3 (od rfl))) ?_
    refine sc (sg (sp_eql (od rfl) (od rfl))) ?_
    refine sn fun a w hS => ?_
    refine exit_then ?_
    refine st_cond hS rfl (fun hb => ?_) (fun hb => ?_)
    · have h := ite_t hb h
      refine wp_seq ?_
      refine st_reg mixed (by kernel_rfl) hS ?_
      refine sc (sg (sp_move (od rfl))) ?_
      refine sc (sg (sp_assign (od rfl))) ?_
      refine sn fun a w hS => ?_
      refine exit_then ?_
      refine wp_ret ?_
      refine exit_blockR ?_
      refine exit_thenR ?_
      cases h
      obtain rfl := hL_4 _ rfl
      have h := (elim_leave hr_6)
      refine exit_thenR ?_
      refine exit_blockR ?_
      refine exit_thenR ?_
      cases h
      exact st_ret hS (run_results1 Try.results100 a w) (hS.get rfl)
    · have h := ite_f hb h
      refine wp_skip ?_
      refine exit_block ?_
      refine exit_then ?_
      refine st_reg mixed (by kernel_rfl) hS ?_
      refine sc (sg (sp_add (od rfl) (odi))) ?_
      refine sc (sg (sp_move (od rfl))) ?_
      refine sn fun a w hS => ?_
      cases h
      exact ⟨k_4, _, _, rfl, hN_4 _ rfl, hS.weak ⟨od rfl, od rfl, od rfl, od (congrArg (fun z => some (isV (α := Int) z)) hw_4), trivial⟩⟩
  · refine wp_exit ?_
    obtain rfl := for_done hF_4 hb
    have h := elim_again hr_6
    refine exit_thenE ?_
    refine exit_thenE ?_
    refine exit_here ?_
    refine exit_then ?_
    refine wp_seq ?_
    refine st_reg mixed (by kernel_rfl) hS ?_
    refine sc (sg (sp_assign (odi))) ?_
    refine sn fun a w hS => ?_
    refine exit_then ?_
    refine wp_ret ?_
    cases h
    exact st_ret hS (run_results1 Try.results100 a w) (hS.get rfl)

theorem f50_ok {p0 : List Int} {p1 : Int} {r : Bool} (h : M.f50 p0 p1 = some r) : CallOK Try.prog 50 [isV p0, isV p1] (isV r) := by
  unfold M.f50 at h
  refine callS_of Try.func50 rfl Try.ntmps50 rfl fun F0 w0 a hS => ?_
  refine wp_seq ?_
  refine st_reg mixed (by kernel_rfl) hS ?_
  refine sc (sg (sp_assign (odb))) ?_
  refine sn fun a w hS => ?_
  refine exit_then ?_
  refine wp_seq ?_
  obtain ⟨v_1, e_2, h⟩ := bind_some h
  refine st_reg mixed (by kernel_rfl) hS ?_
  refine sc (sg (sp_move (od rfl))) ?_
  refine sc (sg (sp_move (od rfl))) ?_
  refine sc (sg (sp_call en100 (f100_ok e_2) ⟨od rfl, od rfl, trivial⟩)) ?_
  refine sc (sg (sp_geq (od rfl) (odi))) ?_
  refine sc (sg (sp_assign (od rfl))) ?_
  refine sn fun a w hS => ?_
  refine exit_then ?_
  refine wp_ret ?_
  cases h
  exact st_ret hS (run_results1 Try.results50 a w) (hS.get rfl)

theorem f10_ok {fuel : Nat} {p0 : S_api_Market} {p1 : Int} {p2 : Int} {p3 : Int} {p4 : Int} {r : Bool} (h : M.f10 fuel p0 p1 p2 p3 p4 = some r) : CallOK Try.prog 10 [isV p0, isV p1, isV p2, isV p3, isV p4] (isV r) := by
  unfold M.f10 at h
  refine callS_of Try.func10 rfl Try.ntmps10 rfl fun F0 w0 a hS => ?_
  refine wp_seq ?_
  refine st_reg mixed (by kernel_rfl) hS ?_
  refine sc (sg (sp_box (od rfl))) ?_
  refine sc (sg (sp_assign (odb))) ?_
  refine sn fun a w hS => ?_
  refine exit_then ?_
  refine wp_seq ?_
  refine wp_seq ?_
  obtain ⟨v_1, e_2, h⟩ := bind_some h
  refine st_reg mixed (by kernel_rfl) hS ?_
  refine sc (sg (sp_call en16 (f16_ok e_2) trivial)) ?_
  refine sc (sg (sp_not (od rfl))) ?_
  refine sn fun a w hS => ?_
  refine exit_then ?_
  refine st_cond hS rfl (fun hb => ?_) (fun hb => ?_)
  · have h := ite_t hb h
    refine wp_seq ?_
    refine st_reg mixed (by kernel_rfl) hS ?_
    refine sc (sg (sp_assign (odb))) ?_
    refine sn fun a w hS => ?_
    refine exit_then ?_
    refine wp_ret ?_
    refine exit_thenR ?_
    cases h
    exact st_ret hS (run_results1 Try.results10 a w) (hS.get rfl)
  · have h := ite_f hb h
    refine wp_skip ?_
    refine exit_then ?_
    refine wp_seq ?_
    refine wp_seq ?_
    obtain ⟨v_3, e_4, h⟩ := bind_some h
    refine st_reg mixed (by kernel_rfl) hS ?_
    refine sc (sg (sp_load ty24 (od rfl))) ?_
    refine sc (sg (sp_move (od rfl))) ?_
    refine sc (sg (sp_move (od rfl))) ?_
    refine sc (sg (sp_buildSlice [.tmp 26, .tmp 27] ([p1, p2] : List Int) sl27 ze3 rfl rfl rfl rfl ⟨od rfl, od rfl, trivial⟩)) ?_
    refine sc (sg (sp_call en31 (f31_ok e_4) ⟨od rfl, odnil (α := Int), od rfl, trivial⟩)) ?_
    refine sc (sg (sp_not (od rfl))) ?_
    refine sc (sg (sp_move (od rfl))) ?_
    refine sc (sgF rfl fun hG => sp_move (od rfl)) ?_
    refine sc (sgF rfl fun hG => sp_lss (odw rfl hG) (odi)) ?_
    refine sc (sg (sp_pickOr (od rfl) fun hg => odw rfl (not_t hg))) ?_
    refine sc (sg (sp_move (od rfl))) ?_
    refine sc (sgF rfl fun hG => sp_move (od rfl)) ?_
    refine sc (sgF rfl fun hG => sp_gtr (odw rfl hG) (odi)) ?_
    refine sc (sg (sp_pickOr (od rfl) fun hg => odw rfl (not_t hg))) ?_
    refine sc (sg (sp_move (od rfl))) ?_
    refine sc (sgF rfl fun hG => sp_move (od rfl)) ?_
    refine sc (sgF rfl fun hG => sp_lss (odw rfl hG) (odi)) ?_
    refine sc (sg (sp_pickOr (od rfl) fun hg => odw rfl (not_t hg))) ?_
    refine sc (sg (sp_move (od rfl))) ?_
    refine sc (sgF rfl fun hG => sp_move (od rfl)) ?_
    refine sc (sgF rfl fun hG => sp_fieldAddr fd24_2 (od rfl)) ?_
    refine sc (sgF rfl fun hG => sp_load ty22 (odw rfl hG)) ?_
    refine sc (sgF rfl fun hG => sp_len Try.underlying22 (odw rfl hG)) ?_
    refine sc (sgF rfl fun hG => sp_geq (odw rfl hG) (odw rfl hG)) ?_
    refine sc (sg (sp_pickOr (od rfl) fun hg => odw rfl (not_t hg))) ?_
    refine sn fun a w hS => ?_
    refine exit_then ?_
    refine st_cond hS rfl (fun hb => ?_) (fun hb => ?_)
    · have h := ite_t hb h
      refine wp_seq ?_
      refine st_reg mixed (by kernel_rfl) hS ?_
      refine sc (sg (sp_assign (odb))) ?_
      refine sn fun a w hS => ?_
      refine exit_then ?_
      refine wp_ret ?_
      refine exit_thenR ?_
      cases h
      exact st_ret hS (run_results1 Try.results10 a w) (hS.get rfl)
    · have h := ite_f hb h
      refine wp_skip ?_
      refine exit_then ?_
      refine wp_seq ?_
      obtain ⟨v_5, e_6, h⟩ := bind_some h
      refine st_reg mixed (by kernel_rfl) hS ?_
      refine sc (sg (sp_load ty24 (od rfl))) ?_
      refine sc (sg (sp_move (od rfl))) ?_
      refine sc (sg (sp_move (od rfl))) ?_
      refine sc (sg (sp_move (od rfl))) ?_
      refine sc (sg (sp_call en25 (f25_ok e_6) ⟨od rfl, od rfl, od rfl, od rfl, trivial⟩)) ?_
      refine sc (sg (sp_move (od rfl))) ?_
      refine sc (sg (sp_extract (od rfl) rfl)) ?_
      refine sc (sg (sp_extract (od rfl) rfl)) ?_
      refine sc (sg (sp_extract (od rfl) rfl)) ?_
      refine sc (sg (sp_assign (od rfl))) ?_
      refine sc (sg (sp_assign (od rfl))) ?_
      refine sc (sg (sp_assign (od rfl))) ?_
      refine sn fun a w hS => ?_
      refine exit_then ?_
      refine wp_seq ?_
      obtain ⟨v_7, e_8, h⟩ := bind_some h
      refine st_reg mixed (by kernel_rfl) hS ?_
      refine sc (sg (sp_load ty24 (od rfl))) ?_
      refine sc (sg (sp_move (od rfl))) ?_
      refine sc (sg (sp_move (od rfl))) ?_
      refine sc (sg (sp_move (od rfl))) ?_
      refine sc (sg (sp_call en18 (f18_ok e_8) ⟨od rfl, od rfl, od rfl, od rfl, trivial⟩)) ?_
      refine sc (sg (sp_move (od rfl))) ?_
      refine sc (sg (sp_extract (od rfl) rfl)) ?_
      refine sc (sg (sp_extract (od rfl) rfl)) ?_
      refine sc (sg (sp_assign (od rfl))) ?_
      refine sc (sg (sp_assign (od rfl))) ?_
      refine sn fun a w hS => ?_
      refine exit_then ?_
      refine wp_seq ?_
      obtain ⟨v_9, e_10, h⟩ := bind_some h
      refine st_reg mixed (by kernel_rfl) hS ?_
      refine sc (sg (sp_load ty24 (od rfl))) ?_
      refine sc (sg (sp_move (od rfl))) ?_
      refine sc (sg (sp_move (od rfl))) ?_
      refine sc (sg (sp_move (od rfl))) ?_
      refine sc (sg (sp_move (od rfl))) ?_
      refine sc (sg (sp_call en20 (f20_ok e_10) ⟨od rfl, od rfl, od rfl, od rfl, od rfl, trivial⟩)) ?_
      refine sc (sg (sp_move (od rfl))) ?_
      refine sc (sg (sp_extract (od rfl) rfl)) ?_
      refine sc (sg (sp_extract (od rfl) rfl)) ?_
      refine sc (sg (sp_extract (od rfl) rfl)) ?_
      refine sc (sg (sp_assign (od rfl))) ?_
      refine sc (sg (sp_assign (od rfl))) ?_
      refine sc (sg (sp_assign (od rfl))) ?_
      refine sn fun a w hS => ?_
      refine exit_then ?_
      refine wp_seq ?_
      refine wp_seq ?_
      refine st_reg mixed (by kernel_rfl) hS ?_
      refine sc (sg (sp_move (od rfl))) ?_
      refine sc (sg (sp_neq (od rfl) (odi))) ?_
      refine sn fun a w hS => ?_
      refine exit_then ?_
      refine st_cond hS rfl (fun hb => ?_) (fun hb => ?_)
      · have h := ite_t hb h
        refine wp_seq ?_
        refine st_reg mixed (by kernel_rfl) hS ?_
        refine sc (sg (sp_assign (odb))) ?_
        refine sn fun a w hS => ?_
        refine exit_then ?_
        refine wp_ret ?_
        refine exit_thenR ?_
        cases h
        exact st_ret hS (run_results1 Try.results10 a w) (hS.get rfl)
      · have h := ite_f hb h
        refine wp_skip ?_
        refine exit_then ?_
        refine wp_seq ?_
        refine wp_seq ?_
        refine st_reg mixed (by kernel_rfl) hS ?_
        refine sc (sg (sp_move (od rfl))) ?_
        refine sc (sg (sp_not (od rfl))) ?_
        refine sn fun a w hS => ?_
        refine exit_then ?_
        refine st_cond hS rfl (fun hb => ?_) (fun hb => ?_)
        · have h := ite_t hb h
          refine wp_seq ?_
          refine st_reg mixed (by kernel_rfl) hS ?_
          refine sc (sg (sp_move (od rfl))) ?_
          refine sc (sg (sp_eql (od rfl) (odi))) ?_
          refine sc (sg (sp_move (od rfl))) ?_
          refine sc (sgT rfl fun hG => sp_move (od rfl)) ?_
          refine sc (sgT rfl fun hG => sp_eql (odw rfl hG) (odi)) ?_
          refine sc (sg (sp_pickAnd (od rfl) fun hg => odw rfl hg)) ?_
          refine sc (sg (sp_assign (od rfl))) ?_
          refine sn fun a w hS => ?_
          refine exit_then ?_
          refine wp_ret ?_
          refine exit_thenR ?_
          cases h
          exact st_ret hS (run_results1 Try.results10 a w) (hS.get rfl)
        · have h := ite_f hb h
          refine wp_skip ?_
          refine exit_then ?_
          refine wp_seq ?_
          obtain ⟨v_11, e_12, h⟩ := bind_some h
          refine st_reg mixed (by kernel_rfl) hS ?_
          refine sc (sg (sp_move (od rfl))) ?_
          refine sc (sg (sp_move (od rfl))) ?_
          refine sc (sg (sp_call en50 (f50_ok e_12) ⟨od rfl, od rfl, trivial⟩)) ?_
          refine sc (sg (sp_assign (od rfl))) ?_
          refine sn fun a w hS => ?_
          refine exit_then ?_
          refine wp_seq ?_
          refine wp_seq ?_
          obtain ⟨v_13, e_14, h⟩ := bind_some h
          refine st_reg mixed (by kernel_rfl) hS ?_
          refine sc (sg (sp_move (od rfl))) ?_
          refine sc (sg (sp_neq (od rfl) (odi))) ?_
          refine sc (sg (sp_move (od rfl))) ?_
          refine sc (sgF rfl fun hG => sp_move (od rfl)) ?_
          refine sc (sgF rfl fun hG => sp_neq (odw rfl hG) (odi)) ?_
          refine sc (sg (sp_pickOr (od rfl) fun hg => odw rfl (not_t hg))) ?_
          refine sc (sg (sp_move (od rfl))) ?_
          refine sc (sgF rfl fun hG => sp_move (od rfl)) ?_
          refine sc (sgF rfl fun hG => sp_move (od rfl)) ?_
          refine sc (sgF rfl fun hG => sp_call en50 (f50_ok (guard_some e_14 hG)) ⟨odw rfl hG, odw rfl hG, trivial⟩) ?_
          refine sc (sgF rfl fun hG => sp_move (od rfl)) ?_
          refine sc (sgF rfl fun hG => sp_eqlB Try.underlying4 (odw rfl hG) (odw rfl hG)) ?_
          refine sc (sg (sp_pickOr (od rfl) fun hg => odw rfl (not_t hg))) ?_
          refine sc (sg (sp_move (od rfl))) ?_
          refine sc (sgF rfl fun hG => sp_move (od rfl)) ?_
          refine sc (sgF rfl fun hG => sp_not (odw rfl hG)) ?_
          refine sc (sgF rfl fun hG => sp_move (odw rfl hG)) ?_
          refine sc (sgwT rfl fun hG => sp_move (od rfl)) ?_
          refine sc (sgwT rfl fun hG => sp_not (odw rfl hG)) ?_
          refine sc (sgF rfl fun hG => sp_pickAnd (odw rfl hG) fun hg => odw rfl (and_mk hG hg)) ?_
          refine sc (sg (sp_pickOr (od rfl) fun hg => odw rfl (not_t hg))) ?_
          refine sc (sg (sp_move (od rfl))) ?_
          refine sc (sgF rfl fun hG => sp_move (od rfl)) ?_
          refine sc (sgF rfl fun hG => sp_move (odw rfl hG)) ?_
          refine sc (sgwT rfl fun hG => sp_move (od rfl)) ?_
          refine sc (sgwT rfl fun hG => sp_move (odw rfl hG)) ?_
          refine sc (sgwT rfl fun hG => sp_move (od rfl)) ?_
          refine sc (sgwT rfl fun hG => sp_lss (odw rfl hG) (odi)) ?_
          refine sc (sgwT rfl fun hG => sp_pickAnd (odw rfl hG) fun hg => odw rfl (and_mk hG hg)) ?_
          refine sc (sgwT rfl fun hG => sp_move (odw rfl hG)) ?_
          refine sc (sgwF rfl fun hG => sp_move (od rfl)) ?_
          refine sc (sgwF rfl fun hG => sp_gtr (odw rfl hG) (odi)) ?_
          refine sc (sgwF rfl fun hG => sp_move (odw rfl hG)) ?_
          refine sc (sgwT rfl fun hG => sp_move (od rfl)) ?_
          refine sc (sgwT rfl fun hG => sp_not (odw rfl hG)) ?_
          refine sc (sgwF rfl fun hG => sp_pickAnd (odw rfl hG) fun hg => odw rfl (and_mk hG hg)) ?_
          refine sc (sgwT rfl fun hG => sp_pickOr (odw rfl hG) fun hg => odw rfl (and_mk hG (not_t hg))) ?_
          refine sc (sgF rfl fun hG => sp_pickAnd (odw rfl hG) fun hg => odw rfl (and_mk hG hg)) ?_
          refine sc (sg (sp_pickOr (od rfl) fun hg => odw rfl (not_t hg))) ?_
          refine sn fun a w hS => ?_
          refine exit_then ?_
          refine st_cond hS rfl (fun hb => ?_) (fun hb => ?_)
          · have h := ite_t hb h
            refine wp_seq ?_
            refine st_reg mixed (by kernel_rfl) hS ?_
            refine sc (sg (sp_assign (odb))) ?_
            refine sn fun a w hS => ?_
            refine exit_then ?_
            refine wp_ret ?_
            refine exit_thenR ?_
            cases h
            exact st_ret hS (run_results1 Try.results10 a w) (hS.get rfl)
          · have h := ite_f hb h
            refine wp_skip ?_
            refine exit_then ?_
            refine wp_seq ?_
            obtain ⟨v_15, e_16, h⟩ := bind_some h
            refine st_reg mixed (by kernel_rfl) hS ?_
            refine sc (sg (sp_load ty24 (od rfl))) ?_
            refine sc (sg (sp_move (od rfl))) ?_
            refine sc (sg (sp_call en37 (f37_ok e_16) ⟨od rfl, od rfl, trivial⟩)) ?_
            refine sc (sg (sp_move (od rfl))) ?_
            refine sc (sg (sp_extract (od rfl) rfl)) ?_
            refine sc (sg (sp_extract (od rfl) rfl)) ?_
            refine sc (sg (sp_assign (od rfl))) ?_
            refine sc (sg (sp_assign (od rfl))) ?_
            refine sn fun a w hS => ?_
            refine exit_then ?_
            refine wp_seq ?_
            obtain ⟨v_17, e_18, h⟩ := bind_some h
            refine st_reg mixed (by kernel_rfl) hS ?_
            refine sc (sg (sp_load ty24 (od rfl))) ?_
            refine sc (sg (sp_move (od rfl))) ?_
            refine sc (sg (sp_move (od rfl))) ?_
            refine sc (sg (sp_move (od rfl))) ?_
            refine sc (sg (sp_call en22 (f22_ok e_18) ⟨od rfl, od rfl, od rfl, od rfl, trivial⟩)) ?_
            refine sc (sg (sp_move (od rfl))) ?_
            refine sc (sg (sp_extract (od rfl) rfl)) ?_
            refine sc (sg (sp_extract (od rfl) rfl)) ?_
            refine sc (sg (sp_extract (od rfl) rfl)) ?_
            refine sc (sg (sp_assign (od rfl))) ?_
            refine sc (sg (sp_assign (od rfl))) ?_
            refine sc (sg (sp_assign (od rfl))) ?_
            refine sn fun a w hS => ?_
            refine exit_then ?_
            refine wp_seq ?_
            refine wp_seq ?_
            refine st_reg mixed (by kernel_rfl) hS ?_
            refine sc (sg (sp_move (od rfl))) ?_
            refine sc (sg (sp_neq (od rfl) (odi))) ?_
            refine sc (sg (sp_move (od rfl))) ?_
            refine sc (sgF rfl fun hG => sp_move (od rfl)) ?_
            refine sc (sgF rfl fun hG => sp_neq (odw rfl hG) (odi)) ?_
            refine sc (sg (sp_pickOr (od rfl) fun hg => odw rfl (not_t hg))) ?_
            refine sc (sg (sp_move (od rfl))) ?_
            refine sc (sgF rfl fun hG => sp_move (od rfl)) ?_
            refine sc (sgF rfl fun hG => sp_not (odw rfl hG)) ?_
            refine sc (sg (sp_pickOr (od rfl) fun hg => odw rfl (not_t hg))) ?_
            refine sc (sg (sp_move (od rfl))) ?_
            refine sc (sgF rfl fun hG => sp_move (od rfl)) ?_
            refine sc (sgF rfl fun hG => sp_move (od rfl)) ?_
            refine sc (sgF rfl fun hG => sp_gtr (odw rfl hG) (odw rfl hG)) ?_
            refine sc (sg (sp_pickOr (od rfl) fun hg => odw rfl (not_t hg))) ?_
            refine sn fun a w hS => ?_
            refine exit_then ?_
            refine st_cond hS rfl (fun hb => ?_) (fun hb => ?_)
            · have h := ite_t hb h
              refine wp_seq ?_
              refine st_reg mixed (by kernel_rfl) hS ?_
              refine sc (sg (sp_assign (odb))) ?_
              refine sn fun a w hS => ?_
              refine exit_then ?_
              refine wp_ret ?_
              refine exit_thenR ?_
              cases h
              exact st_ret hS (run_results1 Try.results10 a w) (hS.get rfl)
            · have h := ite_f hb h
              refine wp_skip ?_
              refine exit_then ?_
              refine wp_seq ?_
              refine wp_seq ?_
              refine st_reg mixed (by kernel_rfl) hS ?_
              refine sc (sg (sp_move (od rfl))) ?_
              refine sc (sg (sp_eql (od rfl) (odi))) ?_
              refine sn fun a w hS => ?_
              refine exit_then ?_
              refine st_cond hS rfl (fun hb => ?_) (fun hb => ?_)
              · have h := ite_t hb h
                refine wp_seq ?_
                refine st_reg mixed (by kernel_rfl) hS ?_
                refine sc (sg (sp_assign (odb))) ?_
                refine sn fun a w hS => ?_
                refine exit_then ?_
                refine wp_ret ?_
                refine exit_thenR ?_
                cases h
                exact st_ret hS (run_results1 Try.results10 a w) (hS.get rfl)
              · have h := ite_f hb h
                refine wp_skip ?_
                refine exit_then ?_
                refine wp_seq ?_
                obtain ⟨v_19, e_20, h⟩ := bind_some h
                refine st_reg mixed (by kernel_rfl) hS ?_
                refine sc (sg (sp_load ty24 (od rfl))) ?_
                refine sc (sg (sp_move (od rfl))) ?_
                refine sc (sg (sp_move (od rfl))) ?_
                refine sc (sg (sp_move (od rfl))) ?_
                refine sc (sg (sp_sub (od rfl) (odi))) ?_
                refine sc (sg (sp_call en22 (f22_ok e_20) ⟨od rfl, od rfl, od rfl, od rfl, trivial⟩)) ?_
                refine sc (sg (sp_move (od rfl))) ?_
                refine sc (sg (sp_extract (od rfl) rfl)) ?_
                refine sc (sg (sp_extract (od rfl) rfl)) ?_
                refine sc (sg (sp_extract (od rfl) rfl)) ?_
                refine sc (sg (sp_assign (od rfl))) ?_
                refine sc (sg (sp_assign (od rfl))) ?_
                refine sc (sg (sp_assign (od rfl))) ?_
                refine sn fun a w hS => ?_
                refine exit_then ?_
                refine wp_seq ?_
                refine st_reg mixed (by kernel_rfl) hS ?_
                refine sc (sg (sp_move (od rfl))) ?_
                refine sc (sg (sp_eql (od rfl) (odi))) ?_
                refine sc (sg (sp_move (od rfl))) ?_
                refine sc (sgT rfl fun hG => sp_move (od rfl)) ?_
                refine sc (sgT rfl fun hG => sp_not (odw rfl hG)) ?_
                refine sc (sgT rfl fun hG => sp_move (odw rfl hG)) ?_
                refine sc (sgwF rfl fun hG => sp_move (od rfl)) ?_
                refine sc (sgwF rfl fun hG => sp_move (od rfl)) ?_
                refine sc (sgwF rfl fun hG => sp_gtr (odw rfl hG) (odw rfl hG)) ?_
                refine sc (sgT rfl fun hG => sp_pickOr (odw rfl hG) fun hg => odw rfl (and_mk hG (not_t hg))) ?_
                refine sc (sg (sp_pickAnd (od rfl) fun hg => odw rfl hg)) ?_
                refine sc (sg (sp_assign (od rfl))) ?_
                refine sn fun a w hS => ?_
                refine exit_then ?_
                refine wp_ret ?_
                cases h
                exact st_ret hS (run_results1 Try.results10 a w) (hS.get rfl)

theorem f39_ok {p0 : Vector Int 2} {c0 : Int} {r : Bool} (h : M.f39 p0 c0 = some r) : CallOK Try.prog 39 [isV p0, isA c0] (isV r) := by
  unfold M.f39 at h
  refine callS_of Try.func39 rfl Try.ntmps39 rfl fun F0 w0 a hS => ?_
  refine wp_seq ?_
  refine st_reg mixed (by kernel_rfl) hS ?_
  refine sc (sg (sp_box (od rfl))) ?_
  refine sc (sg (sp_assign (odb))) ?_
  refine sn fun a w hS => ?_
  refine exit_then ?_
  refine wp_seq ?_
  obtain ⟨v_1, e_2, h⟩ := bind_some h
  refine st_reg mixed (by kernel_rfl) hS ?_
  refine sc (sg (sp_indexAddrA ar54 (od rfl) (odi) e_2)) ?_
  refine sc (sg (sp_load ty3 (od rfl))) ?_
  refine sc (sg (sp_load ty3 (od rfl))) ?_
  refine sc (sg (sp_leq (od rfl) (od rfl))) ?_
  refine sc (sg (sp_assign (od rfl))) ?_
  refine sn fun a w hS => ?_
  refine exit_then ?_
  refine wp_ret ?_
  cases h
  exact st_ret hS (run_results1 Try.results39 a w) (hS.get rfl)

theorem f40_ok {p0 : List Int} {p1 : Int} {p2 : List Int} {p3 : Int} {r : Bool} (h : M.f40 p0 p1 p2 p3 = some r) : CallOK Try.prog 40 [isV p0, isV p1, isV p2, isV p3] (isV r) := by
  unfold M.f40 at h
  refine callS_of Try.func40 rfl Try.ntmps40 rfl fun F0 w0 a hS => ?_
  refine wp_seq ?_
  refine st_reg mixed (by kernel_rfl) hS ?_
  refine sc (sg (sp_assign (odb))) ?_
  refine sn fun a w hS => ?_
  refine exit_then ?_
  refine wp_seq ?_
  refine wp_seq ?_
  refine st_reg mixed (by kernel_rfl) hS ?_
  refine sc (sg (sp_move (od rfl))) ?_
  refine sc (sg (sp_move (od rfl))) ?_
  refine sc (sg (sp_neq (od rfl) (od rfl))) ?_
  refine sn fun a w hS => ?_
  refine exit_then ?_
  refine st_cond hS rfl (fun hb => ?_) (fun hb => ?_)
  · have h := ite_t hb h
    refine wp_seq ?_
    refine st_reg mixed (by kernel_rfl) hS ?_
    refine sc (sg (sp_move (od rfl))) ?_
    refine sc (sg (sp_move (od rfl))) ?_
    refine sc (sg (sp_lss (od rfl) (od rfl))) ?_
    refine sc (sg (sp_assign (od rfl))) ?_
    refine sn fun a w hS => ?_
    refine exit_then ?_
    refine wp_ret ?_
    refine exit_thenR ?_
    cases h
    exact st_ret hS (run_results1 Try.results40 a w) (hS.get rfl)
  · have h := ite_f hb h
    refine wp_skip ?_
    refine exit_then ?_
    refine wp_seq ?_
    refine wp_seq ?_
    refine st_reg mixed (by kernel_rfl) hS ?_
    refine sc (sg (sp_move (od rfl))) ?_
    refine sc (sg (sp_len Try.underlying27 (od rfl))) ?_
    refine sc (sg (sp_move (od rfl))) ?_
    refine sc (sg (sp_len Try.underlying27 (od rfl))) ?_
    refine sc (sg (sp_neq (od rfl) (od rfl))) ?_
    refine sn fun a w hS => ?_
    refine exit_then ?_
    refine st_cond hS rfl (fun hb => ?_) (fun hb => ?_)
    · have h := ite_t hb h
      refine wp_seq ?_
      refine st_reg mixed (by kernel_rfl) hS ?_
      refine sc (sg (sp_move (od rfl))) ?_
      refine sc (sg (sp_len Try.underlying27 (od rfl))) ?_
      refine sc (sg (sp_move (od rfl))) ?_
      refine sc (sg (sp_len Try.underlying27 (od rfl))) ?_
      refine sc (sg (sp_lss (od rfl) (od rfl))) ?_
      refine sc (sg (sp_assign (od rfl))) ?_
      refine sn fun a w hS => ?_
      refine exit_then ?_
      refine wp_ret ?_
      refine exit_thenR ?_
      cases h
      exact st_ret hS (run_results1 Try.results40 a w) (hS.get rfl)
    · have h := ite_f hb h
      refine wp_skip ?_
      refine exit_then ?_
      refine wp_seq ?_
      obtain ⟨v_1, e_2, h⟩ := bind_some h
      refine st_reg mixed (by kernel_rfl) hS ?_
      refine sc (sg (sp_move (od rfl))) ?_
      refine sc (sg (sp_move (od rfl))) ?_
      refine sc (sg (sp_call en94 (f94_ok e_2) ⟨od rfl, od rfl, trivial⟩)) ?_
      refine sc (sg (sp_lss (od rfl) (odi))) ?_
      refine sc (sg (sp_assign (od rfl))) ?_
      refine sn fun a w hS => ?_
      refine exit_then ?_
      refine wp_ret ?_
      cases h
      exact st_ret hS (run_results1 Try.results40 a w) (hS.get rfl)

theorem f6_ok {fuel : Nat} {p0 : S_api_Market} {p1 : List Int} {p2 : Int} {p3 : Int} {p4 : Int} {r : Bool} (h : M.f6 fuel p0 p1 p2 p3 p4 = some r) : CallOK Try.prog 6 [isV p0, isV p1, isV p2, isV p3, isV p4] (isV r) := by
  unfold M.f6 at h
  refine callS_of Try.func6 rfl Try.ntmps6 rfl fun F0 w0 a hS => ?_
  refine wp_seq ?_
  refine st_reg mixed (by kernel_rfl) hS ?_
  refine sc (sg (sp_box (od rfl))) ?_
  refine sc (sg (sp_box (od rfl))) ?_
  refine sc (sg (sp_assign (odb))) ?_
  refine sn fun a w hS => ?_
  refine exit_then ?_
  refine wp_seq ?_
  refine wp_seq ?_
  obtain ⟨v_1, e_2, h⟩ := bind_some h
  refine st_reg mixed (by kernel_rfl) hS ?_
  refine sc (sg (sp_call en16 (f16_ok e_2) trivial)) ?_
  refine sc (sg (sp_not (od rfl))) ?_
  refine sn fun a w hS => ?_
  refine exit_then ?_
  refine st_cond hS rfl (fun hb => ?_) (fun hb => ?_)
  · have h := ite_t hb h
    refine wp_seq ?_
    refine st_reg mixed (by kernel_rfl) hS ?_
    refine sc (sg (sp_assign (odb))) ?_
    refine sn fun a w hS => ?_
    refine exit_then ?_
    refine wp_ret ?_
    refine exit_thenR ?_
    cases h
    exact st_ret hS (run_results1 Try.results6 a w) (hS.get rfl)
  · have h := ite_f hb h
    refine wp_skip ?_
    refine exit_then ?_
    refine wp_seq ?_
    refine wp_seq ?_
    obtain ⟨v_3, e_4, h⟩ := bind_some h
    refine st_reg mixed (by kernel_rfl) hS ?_
    refine sc (sg (sp_load ty24 (od rfl))) ?_
    refine sc (sg (sp_move (od rfl))) ?_
    refine sc (sg (sp_move (od rfl))) ?_
    refine sc (sg (sp_move (od rfl))) ?_
    refine sc (sg (sp_buildSlice [.tmp 29, .tmp 30] ([p2, p3] : List Int) sl27 ze3 rfl rfl rfl rfl ⟨od rfl, od rfl, trivial⟩)) ?_
    refine sc (sg (sp_call en31 (f31_ok e_4) ⟨od rfl, od rfl, od rfl, trivial⟩)) ?_
    refine sc (sg (sp_not (od rfl))) ?_
    refine sc (sg (sp_move (od rfl))) ?_
    refine sc (sgF rfl fun hG => sp_load ty3 (od rfl)) ?_
    refine sc (sgF rfl fun hG => sp_lss (odw rfl hG) (odi)) ?_
    refine sc (sg (sp_pickOr (od rfl) fun hg => odw rfl (not_t hg))) ?_
    refine sc (sg (sp_move (od rfl))) ?_
    refine sc (sgF rfl fun hG => sp_load ty3 (od rfl)) ?_
    refine sc (sgF rfl fun hG => sp_gtr (odw rfl hG) (odi)) ?_
    refine sc (sg (sp_pickOr (od rfl) fun hg => odw rfl (not_t hg))) ?_
    refine sn fun a w hS => ?_
    refine exit_then ?_
    refine st_cond hS rfl (fun hb => ?_) (fun hb => ?_)
    · have h := ite_t hb h
      refine wp_seq ?_
      refine st_reg mixed (by kernel_rfl) hS ?_
      refine sc (sg (sp_assign (odb))) ?_
      refine sn fun a w hS => ?_
      refine exit_then ?_
      refine wp_ret ?_
      refine exit_thenR ?_
      cases h
      exact st_ret hS (run_results1 Try.results6 a w) (hS.get rfl)
    · have h := ite_f hb h
      refine wp_skip ?_
      refine exit_then ?_
      refine wp_seq ?_
      obtain ⟨v_5, e_6, h⟩ := bind_some h
      refine st_reg mixed (by kernel_rfl) hS ?_
      refine sc (sg (sp_load ty24 (od rfl))) ?_
      refine sc (sg (sp_move (od rfl))) ?_
      refine sc (sg (sp_move (od rfl))) ?_
      refine sc (sg (sp_load ty3 (od rfl))) ?_
      refine sc (sg (sp_call en25 (f25_ok e_6) ⟨od rfl, od rfl, od rfl, od rfl, trivial⟩)) ?_
      refine sc (sg (sp_move (od rfl))) ?_
      refine sc (sg (sp_extract (od rfl) rfl)) ?_
      refine sc (sg (sp_extract (od rfl) rfl)) ?_
      refine sc (sg (sp_extract (od rfl) rfl)) ?_
      refine sc (sg (sp_assign (od rfl))) ?_
      refine sc (sg (sp_assign (od rfl))) ?_
      refine sc (sg (sp_assign (od rfl))) ?_
      refine sn fun a w hS => ?_
      refine exit_then ?_
      refine wp_seq ?_
      obtain ⟨v_7, e_8, h⟩ := bind_some h
      refine st_reg mixed (by kernel_rfl) hS ?_
      refine sc (sg (sp_load ty24 (od rfl))) ?_
      refine sc (sg (sp_move (od rfl))) ?_
      refine sc (sg (sp_call en34 (f34_ok e_8) ⟨od rfl, od rfl, trivial⟩)) ?_
      refine sc (sg (sp_move (od rfl))) ?_
      refine sc (sg (sp_extract (od rfl) rfl)) ?_
      refine sc (sg (sp_extract (od rfl) rfl)) ?_
      refine sc (sg (sp_assign (od rfl))) ?_
      refine sc (sg (sp_assign (od rfl))) ?_
      refine sn fun a w hS => ?_
      refine exit_then ?_
      refine wp_seq ?_
      obtain ⟨v_9, e_10, h⟩ := bind_some h
      refine st_reg mixed (by kernel_rfl) hS ?_
      refine sc (sg (sp_load ty24 (od rfl))) ?_
      refine sc (sg (sp_move (od rfl))) ?_
      refine sc (sg (sp_move (od rfl))) ?_
      refine sc (sg (sp_move (od rfl))) ?_
      refine sc (sg (sp_call en33 (f33_ok e_10) ⟨od rfl, od rfl, od rfl, od rfl, trivial⟩)) ?_
      refine sc (sg (sp_move (od rfl))) ?_
      refine sc (sg (sp_extract (od rfl) rfl)) ?_
      refine sc (sg (sp_extract (od rfl) rfl)) ?_
      refine sc (sg (sp_extract (od rfl) rfl)) ?_
      refine sc (sg (sp_assign (od rfl))) ?_
      refine sc (sg (sp_assign (od rfl))) ?_
      refine sc (sg (sp_assign (od rfl))) ?_
      refine sn fun a w hS => ?_
      refine exit_then ?_
      refine wp_seq ?_
      obtain ⟨v_11, e_12, h⟩ := bind_some h
      refine st_reg mixed (by kernel_rfl) hS ?_
      refine sc (sg (sp_load ty24 (od rfl))) ?_
      refine sc (sg (sp_move (od rfl))) ?_
      refine sc (sg (sp_call en37 (f37_ok e_12) ⟨od rfl, od rfl, trivial⟩)) ?_
      refine sc (sg (sp_move (od rfl))) ?_
      refine sc (sg (sp_extract (od rfl) rfl)) ?_
      refine sc (sg (sp_extract (od rfl) rfl)) ?_
      refine sc (sg (sp_assign (od rfl))) ?_
      refine sc (sg (sp_assign (od rfl))) ?_
      refine sn fun a w hS => ?_
      refine exit_then ?_
      refine wp_seq ?_
      refine wp_seq ?_
      refine st_reg mixed (by kernel_rfl) hS ?_
      refine sc (sg (sp_move (od rfl))) ?_
      refine sc (sg (sp_neq (od rfl) (odi))) ?_
      refine sc (sg (sp_move (od rfl))) ?_
      refine sc (sgF rfl fun hG => sp_move (od rfl)) ?_
      refine sc (sgF rfl fun hG => sp_neq (odw rfl hG) (odi)) ?_
      refine sc (sg (sp_pickOr (od rfl) fun hg => odw rfl (not_t hg))) ?_
      refine sc (sg (sp_move (od rfl))) ?_
      refine sc (sgF rfl fun hG => sp_move (od rfl)) ?_
      refine sc (sgF rfl fun hG => sp_neq (odw rfl hG) (odi)) ?_
      refine sc (sg (sp_pickOr (od rfl) fun hg => odw rfl (not_t hg))) ?_
      refine sc (sg (sp_move (od rfl))) ?_
      refine sc (sgF rfl fun hG => sp_move (od rfl)) ?_
      refine sc (sgF rfl fun hG => sp_neq (odw rfl hG) (odi)) ?_
      refine sc (sg (sp_pickOr (od rfl) fun hg => odw rfl (not_t hg))) ?_
      refine sc (sg (sp_move (od rfl))) ?_
      refine sc (sgF rfl fun hG => sp_move (od rfl)) ?_
      refine sc (sgF rfl fun hG => sp_len Try.underlying44 (odw rfl hG)) ?_
      refine sc (sgF rfl fun hG => sp_fieldAddr fd24_0 (od rfl)) ?_
      refine sc (sgF rfl fun hG => sp_load ty3 (odw rfl hG)) ?_
      refine sc (sgF rfl fun hG => sp_neq (odw rfl hG) (odw rfl hG)) ?_
      refine sc (sg (sp_pickOr (od rfl) fun hg => odw rfl (not_t hg))) ?_
      refine sn fun a w hS => ?_
      refine exit_then ?_
      refine st_cond hS rfl (fun hb => ?_) (fun hb => ?_)
      · have h := ite_t hb h
        refine wp_seq ?_
        refine st_reg mixed (by kernel_rfl) hS ?_
        refine sc (sg (sp_assign (odb))) ?_
        refine sn fun a w hS => ?_
        refine exit_then ?_
        refine wp_ret ?_
        refine exit_thenR ?_
        cases h
        exact st_ret hS (run_results1 Try.results6 a w) (hS.get rfl)
      · have h := ite_f hb h
        refine wp_skip ?_
        refine exit_then ?_
        refine wp_seq ?_
        obtain ⟨v_13, e_14, h⟩ := bind_some h
        obtain ⟨v_15, e_16, h⟩ := bind_some h
        refine st_reg mixed (by kernel_rfl) hS ?_
        refine sc (sg (sp_move (od rfl))) ?_
        refine sc (sg (sp_move (od rfl))) ?_
        refine sc (sg (sp_indexAddr sl44 (od rfl) (od rfl) e_14)) ?_
        refine sc (sg (sp_load ty48 (od rfl))) ?_
        refine sc (sg (mk_fn55 (f := (fun x0 => M.f39 x0 p4)) (κs := [isA (α := Int) p4]) ⟨fun _ _ _ _ h => h, trivial⟩ en39 ⟨od rfl, trivial⟩ (fun _ _ h => f39_ok h))) ?_
        refine sc (sg (sp_call en38 (f38_ok e_16) ⟨od rfl, od rfl, trivial⟩)) ?_
        refine sc (sg (sp_assign (od rfl))) ?_
        refine sn fun a w hS => ?_
        refine exit_then ?_
        refine wp_seq ?_
        refine wp_seq ?_
        refine st_reg mixed (by kernel_rfl) hS ?_
        refine sc (sg (sp_move (od rfl))) ?_
        refine sc (sg (sp_geq (od rfl) (odi))) ?_
        refine sc (sg (sp_move (od rfl))) ?_
        refine sc (sg (sp_neqB Try.underlying4 (od rfl) (od rfl))) ?_
        refine sn fun a w hS => ?_
        refine exit_then ?_
        refine st_cond hS rfl (fun hb => ?_) (fun hb => ?_)
        · have h := ite_t hb h
          refine wp_seq ?_
          refine st_reg mixed (by kernel_rfl) hS ?_
          refine sc (sg (sp_assign (odb))) ?_
          refine sn fun a w hS => ?_
          refine exit_then ?_
          refine wp_ret ?_
          refine exit_thenR ?_
          cases h
          exact st_ret hS (run_results1 Try.results6 a w) (hS.get rfl)
        · have h := ite_f hb h
          refine wp_skip ?_
          refine exit_then ?_
          refine wp_seq ?_
          refine wp_seq ?_
          refine st_reg mixed (by kernel_rfl) hS ?_
          refine sc (sg (sp_move (od rfl))) ?_
          refine sc (sg (sp_not (od rfl))) ?_
          refine sn fun a w hS => ?_
          refine exit_then ?_
          refine st_cond hS rfl (fun hb => ?_) (fun hb => ?_)
          · have h := ite_t hb h
            refine wp_seq ?_
            refine st_reg mixed (by kernel_rfl) hS ?_
            refine sc (sg (sp_move (od rfl))) ?_
            refine sc (sg (sp_len Try.underlying27 (od rfl))) ?_
            refine sc (sg (sp_eql (od rfl) (odi))) ?_
            refine sc (sg (sp_move (od rfl))) ?_
            refine sc (sgT rfl fun hG => sp_move (od rfl)) ?_
            refine sc (sgT rfl fun hG => sp_not (odw rfl hG)) ?_
            refine sc (sgT rfl fun hG => sp_move (odw rfl hG)) ?_
            refine sc (sgwF rfl fun hG => sp_move (od rfl)) ?_
            refine sc (sgwF rfl fun hG => sp_load ty3 (od rfl)) ?_
            refine sc (sgwF rfl fun hG => sp_gtr (odw rfl hG) (odw rfl hG)) ?_
            refine sc (sgT rfl fun hG => sp_pickOr (odw rfl hG) fun hg => odw rfl (and_mk hG (not_t hg))) ?_
            refine sc (sg (sp_pickAnd (od rfl) fun hg => odw rfl hg)) ?_
            refine sc (sg (sp_assign (od rfl))) ?_
            refine sn fun a w hS => ?_
            refine exit_then ?_
            refine wp_ret ?_
            refine exit_thenR ?_
            cases h
            exact st_ret hS (run_results1 Try.results6 a w) (hS.get rfl)
          · have h := ite_f hb h
            refine wp_skip ?_
            refine exit_then ?_
            refine wp_seq ?_
            obtain ⟨v_17, e_18, h⟩ := bind_some h
            refine st_reg mixed (by kernel_rfl) hS ?_
            refine sc (sg (sp_load ty24 (od rfl))) ?_
            refine sc (sg (sp_move (od rfl))) ?_
            refine sc (sg (sp_call en37 (f37_ok e_18) ⟨od rfl, od rfl, trivial⟩)) ?_
            refine sc (sg (sp_move (od rfl))) ?_
            refine sc (sg (sp_extract (od rfl) rfl)) ?_
            refine sc (sg (sp_extract (od rfl) rfl)) ?_
            refine sc (sg (sp_assign (od rfl))) ?_
            refine sc (sg (sp_assign (od rfl))) ?_
            refine sn fun a w hS => ?_
            refine exit_then ?_
            refine wp_seq ?_
            obtain ⟨v_19, e_20, h⟩ := bind_some h
            refine st_reg mixed (by kernel_rfl) hS ?_
            refine sc (sg (sp_load ty24 (od rfl))) ?_
            refine sc (sg (sp_move (od rfl))) ?_
            refine sc (sg (sp_move (od rfl))) ?_
            refine sc (sg (sp_move (od rfl))) ?_
            refine sc (sg (sp_call en33 (f33_ok e_20) ⟨od rfl, od rfl, od rfl, od rfl, trivial⟩)) ?_
            refine sc (sg (sp_move (od rfl))) ?_
            refine sc (sg (sp_extract (od rfl) rfl)) ?_
            refine sc (sg (sp_extract (od rfl) rfl)) ?_
            refine sc (sg (sp_extract (od rfl) rfl)) ?_
            refine sc (sg (sp_assign (od rfl))) ?_
            refine sc (sg (sp_assign (od rfl))) ?_
            refine sc (sg (sp_assign (od rfl))) ?_
            refine sn fun a w hS => ?_
            refine exit_then ?_
            refine wp_seq ?_
            obtain ⟨v_21, e_22, h⟩ := bind_some h
            obtain ⟨v_23, e_24, h⟩ := bind_some h
            obtain ⟨v_25, e_26, h⟩ := bind_some h
            obtain ⟨v_27, e_28, h⟩ := bind_some h
            refine st_reg mixed (by kernel_rfl) hS ?_
            refine sc (sg (sp_move (od rfl))) ?_
            refine sc (sg (sp_eql (od rfl) (odi))) ?_
            refine sc (sg (sp_move (od rfl))) ?_
            refine sc (sgT rfl fun hG => sp_move (od rfl)) ?_
            refine sc (sgT rfl fun hG => sp_eql (odw rfl hG) (odi)) ?_
            refine sc (sg (sp_pickAnd (od rfl) fun hg => odw rfl hg)) ?_
            refine sc (sg (sp_move (od rfl))) ?_
            refine sc (sgT rfl fun hG => sp_move (od rfl)) ?_
            refine sc (sg (sp_pickAnd (od rfl) fun hg => odw rfl hg)) ?_
            refine sc (sg (sp_move (od rfl))) ?_
            refine sc (sgT rfl fun hG => sp_move (od rfl)) ?_
            refine sc (sgT rfl fun hG => sp_load ty3 (od rfl)) ?_
            refine sc (sgT rfl fun hG => sp_leq (odw rfl hG) (odw rfl hG)) ?_
            refine sc (sg (sp_pickAnd (od rfl) fun hg => odw rfl hg)) ?_
            refine sc (sg (sp_move (od rfl))) ?_
            refine sc (sgT rfl fun hG => sp_move (od rfl)) ?_
            refine sc (sgT rfl fun hG => sp_move (od rfl)) ?_
            refine sc (sgT rfl fun hG => sp_move (od rfl)) ?_
            refine sc (sgT rfl fun hG => sp_indexAddr sl44 (odw rfl hG) (odw rfl hG) (guard_some e_22 hG)) ?_
            refine sc (sgT rfl fun hG => sp_load ty48 (odw rfl hG)) ?_
            refine sc (sgT rfl fun hG => sp_move (od rfl)) ?_
            refine sc (sgT rfl fun hG => sp_indexAddr sl48 (odw rfl hG) (odw rfl hG) (guard_some e_24 hG)) ?_
            refine sc (sgT rfl fun hG => sp_indexAddrA ar54 (odw rfl hG) (odi) (guard_some e_26 hG)) ?_
            refine sc (sgT rfl fun hG => sp_load ty3 (odw rfl hG)) ?_
            refine sc (sgT rfl fun hG => sp_eql (odw rfl hG) (odw rfl hG)) ?_
            refine sc (sg (sp_pickAnd (od rfl) fun hg => odw rfl hg)) ?_
            refine sc (sg (sp_move (od rfl))) ?_
            refine sc (sgT rfl fun hG => sp_move (od rfl)) ?_
            refine sc (sgT rfl fun hG => sp_not (odw rfl hG)) ?_
            refine sc (sgT rfl fun hG => sp_move (odw rfl hG)) ?_
            refine sc (sgwF rfl fun hG => sp_move (od rfl)) ?_
            refine sc (sgwF rfl fun hG => sp_load ty3 (od rfl)) ?_
            refine sc (sgwF rfl fun hG => sp_gtr (odw rfl hG) (odw rfl hG)) ?_
            refine sc (sgT rfl fun hG => sp_pickOr (odw rfl hG) fun hg => odw rfl (and_mk hG (not_t hg))) ?_
            refine sc (sgT rfl fun hG => sp_move (odw rfl hG)) ?_
            refine sc (sgwF rfl fun hG => sp_move (od rfl)) ?_
            refine sc (sgwF rfl fun hG => sp_move (od rfl)) ?_
            refine sc (sgwF rfl fun hG => sp_move (od rfl)) ?_
            refine sc (sgwF rfl fun hG => sp_move (od rfl)) ?_
            refine sc (sgwF rfl fun hG => sp_call en40 (f40_ok (guard_some e_28 hG)) ⟨odw rfl hG, odw rfl hG, odw rfl hG, odw rfl hG, trivial⟩) ?_
            refine sc (sgwF rfl fun hG => sp_not (odw rfl hG)) ?_
            refine sc (sgT rfl fun hG => sp_pickOr (odw rfl hG) fun hg => odw rfl (and_mk hG (not_t hg))) ?_
            refine sc (sg (sp_pickAnd (od rfl) fun hg => odw rfl hg)) ?_
            refine sc (sg (sp_assign (od rfl))) ?_
            refine sn fun a w hS => ?_
            refine exit_then ?_
            refine wp_ret ?_
            cases h
            exact st_ret hS (run_results1 Try.results6 a w) (hS.get rfl)

end Go.Proofs.Ytkbilbeaedocjaa
