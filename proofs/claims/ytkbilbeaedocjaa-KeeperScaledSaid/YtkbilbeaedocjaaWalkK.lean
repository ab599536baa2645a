/-
  What is proved: each Go function named here returns what its model tells, and changes nothing that was there; where the model tells something.
-/
import Derived.Test.YtkbilbeaedocjaaWalkC
import Derived.Test.YtkbilbeaedocjaaModelK
set_option linter.unusedVariables false
set_option maxRecDepth 100000
namespace Go.Proofs.Ytkbilbeaedocjaa
open Go Go.RowKit Go.Proofs.Ytkbilbeaedocjaa.Wh

theorem f29_ok {p0 : S_api_Market} {r : (List Int) × Bool × Int} (h : M.f29 p0 = some r) : CallOK Try.prog 29 [isV p0] (isTup [isV r.1, isV r.2.1, isV r.2.2]) := by
  unfold M.f29 at h
  refine callS_of Try.func29 rfl Try.ntmps29 rfl fun F0 w0 a hS => ?_
  refine wp_seq ?_
  refine st_reg mixed (by kernel_rfl) hS ?_
  refine sc (sg (sp_box (od rfl))) ?_
  refine sc (sg (sp_assign (odnil (α := Int)))) ?_
  refine sc (sg (sp_assign (odb))) ?_
  refine sc (sg (sp_assign (odi))) ?_
  refine sn fun a w hS => ?_
  refine exit_then ?_
  refine wp_seq ?_
  refine wp_seq ?_
  obtain ⟨v_1, e_2, h⟩ := bind_some h
  refine st_reg mixed (by kernel_rfl) hS ?_
  refine sc (sg (sp_load ty24 (od rfl))) ?_
  refine sc (sg (sp_call en41 (f41_ok e_2) ⟨od rfl, trivial⟩)) ?_
  refine sc (sg (sp_assign (od rfl))) ?_
  refine sn fun a w hS => ?_
  refine exit_then ?_
  refine wp_seq ?_
  refine st_reg mixed (by kernel_rfl) hS ?_
  refine sc (sg (sp_move (od rfl))) ?_
  refine sc (sg (sp_neq (od rfl) (odi))) ?_
  refine sn fun a w hS => ?_
  refine exit_then ?_
  refine st_cond hS rfl (fun hb => ?_) (fun hb => ?_)
  · have h := ite_t hb h
    refine wp_seq ?_
    refine st_reg mixed (by kernel_rfl) hS ?_
    refine sc (sg (sp_move (od rfl))) ?_
    refine sc (sg (sp_assign (odnil (α := Int)))) ?_
    refine sc (sg (sp_assign (odb))) ?_
    refine sc (sg (sp_assign (od rfl))) ?_
    refine sn fun a w hS => ?_
    refine exit_then ?_
    refine wp_ret ?_
    refine exit_thenR ?_
    cases h
    exact st_ret hS (run_results3 Try.results29 a w) (⟨_, rfl, hS.get rfl, hS.get rfl, hS.get rfl, trivial⟩)
  · have h := ite_f hb h
    refine wp_skip ?_
    refine exit_then ?_
    refine wp_seq ?_
    obtain ⟨v_3, e_4, h⟩ := bind_some h
    obtain ⟨v_5, e_6, h⟩ := bind_some h
    obtain ⟨v_7, e_8, h⟩ := bind_some h
    refine st_reg mixed (by kernel_rfl) hS ?_
    refine sc (sg (sp_load ty24 (od rfl))) ?_
    refine sc (sg (sp_call en87 (f87_ok e_4) ⟨od rfl, odi, trivial⟩)) ?_
    refine sc (sg (sp_load ty24 (od rfl))) ?_
    refine sc (sg (sp_call en78 (f78_ok e_6) ⟨od rfl, od rfl, trivial⟩)) ?_
    refine sc (sg (sp_call en85 (f85_ok e_8) ⟨od rfl, trivial⟩)) ?_
    refine sc (sg (sp_extract (od rfl) rfl)) ?_
    refine sc (sg (sp_extract (od rfl) rfl)) ?_
    refine sc (sg (sp_extract (od rfl) rfl)) ?_
    refine sc (sg (sp_assign (od rfl))) ?_
    refine sc (sg (sp_assign (od rfl))) ?_
    refine sc (sg (sp_assign (od rfl))) ?_
    refine sn fun a w hS => ?_
    refine exit_then ?_
    refine wp_ret ?_
    cases h
    exact st_ret hS (run_results3 Try.results29 a w) (⟨_, rfl, hS.get rfl, hS.get rfl, hS.get rfl, trivial⟩)

theorem f126_ok {p0 : List (List Int)} {p1 : ((List Int) → Option Bool)} {r : Int} (h : M.f126 p0 p1 = some r) : CallOK Try.prog 126 [isV p0, isV p1] (isV r) := by
  unfold M.f126 at h
  refine callS_of Try.func126 rfl Try.ntmps126 rfl fun F0 w0 a hS => ?_
  refine wp_seq ?_
  refine st_reg mixed (by kernel_rfl) hS ?_
  refine sc (sg (sp_assign (odi))) ?_
  refine sn fun a w hS => ?_
  refine exit_then ?_
  refine wp_seq ?_
  refine wp_seq ?_
  refine st_reg mixed (by kernel_rfl) hS ?_
  refine sc (sg (sp_move (od rfl))) ?_
  refine sc (sg (sp_len Try.underlying75 (od rfl))) ?_
  refine sc (sg (sp_move (odi))) ?_
  refine sn fun a w hS => ?_
  refine exit_then ?_
  refine wp_block ?_
  obtain ⟨o_4, e_5, hr_6⟩ := bind_some h
  refine c_loop (fun K a w => ∃ k i_1 s_3, K = k + 1 ∧ ForI _ _ _ o_4 k i_1 s_3 ∧ St 19 F0 [] [(0, isV (α := List (List Int)) p0), (1, isV (α := ((List Int) → Option Bool)) p1), (7, isV (α := Int) (p0.length : Int)), (8, isV (α := Int) i_1)] w0 a w) ?_ ?_ ⟨_, _, _, rfl, for_init e_5, hS.weak ⟨od rfl, od rfl, od rfl, od rfl, trivial⟩⟩
  · rintro a w ⟨_, _, _, hk, _⟩; cases hk
  rintro K a w ⟨k_4, i_1, s_3, hk, hF_4, hS⟩
  obtain rfl := Nat.succ.inj hk
  refine wp_seq ?_
  refine st_reg mixed (by kernel_rfl) hS ?_
  refine sc (sg (sp_lss (od rfl) (od rfl))) ?_
  refine sn fun a w hS => ?_
  refine exit_then ?_
  refine wp_seq ?_
  refine st_cond hS rfl (fun hb => ?_) (fun hb => ?_)
  · refine wp_skip ?_
    refine exit_then ?_
    obtain ⟨k_4, o, rfl, h, hN_4, hL_4, hw_4⟩ := for_more hF_4 hb
    refine wp_seq ?_
    refine wp_block ?_
    refine wp_seq ?_
    refine st_reg mixed (by kernel_rfl) hS ?_
    refine sc (sg (sp_move (od rfl))) ?_
    refine sc (sg (sp_assign (od rfl))) ?_
    refine sn fun a w hS => ?_
    refine exit_then ?_
    refine wp_seq ?_
    obtain ⟨v_7, e_8, h⟩ := bind_some h
    obtain ⟨v_9, e_10, h⟩ := bind_some h
    refine st_reg mixed (by kernel_rfl) hS ?_
    refine sc (sg (sp_move (od rfl))) ?_
    refine sc (sg (sp_move (od rfl))) ?_
    refine sc (sg (sp_move (od rfl))) ?_
    refine sc (sg (sp_indexAddr sl75 (od rfl) (od rfl) e_8)) ?_
    refine sc (sg (sp_load ty27 (od rfl))) ?_
    refine sc (sg (sp_callV (od_fn137 (od rfl)) ⟨od rfl, trivial⟩ e_10)) ?_
    refine sn fun a w hS => ?_
    refine exit_then ?_
    refine st_cond hS rfl (fun hb => ?_) (fun hb => ?_)
    · have h := ite_t hb h
      refine wp_seq ?_
      refine st_reg mixed (by kernel_rfl) hS ?_
      refine sc (sg (sp_move (od rfl))) ?_
      refine sc (sg (sp_assign (od rfl))) ?_
      refine sn fun a w hS => ?_
      refine exit_then ?_
      refine wp_ret ?_
      refine exit_blockR ?_
      refine exit_thenR ?_
      cases h
      obtain rfl := hL_4 _ rfl
      have h := (elim_leave hr_6)
      refine exit_thenR ?_
      refine exit_blockR ?_
      refine exit_thenR ?_
      cases h
      exact st_ret hS (run_results1 Try.results126 a w) (hS.get rfl)
    · have h := ite_f hb h
      refine wp_skip ?_
      refine exit_block ?_
      refine exit_then ?_
      refine st_reg mixed (by kernel_rfl) hS ?_
      refine sc (sg (sp_add (od rfl) (odi))) ?_
      refine sc (sg (sp_move (od rfl))) ?_
      refine sn fun a w hS => ?_
      cases h
      exact ⟨k_4, _, _, rfl, hN_4 _ rfl, hS.weak ⟨od rfl, od rfl, od rfl, od (congrArg (fun z => some (isV (α := Int) z)) hw_4), trivial⟩⟩
  · refine wp_exit ?_
    obtain rfl := for_done hF_4 hb
    have h := elim_again hr_6
    refine exit_thenE ?_
    refine exit_thenE ?_
    refine exit_here ?_
    refine exit_then ?_
    refine wp_seq ?_
    refine st_reg mixed (by kernel_rfl) hS ?_
    refine sc (sg (sp_assign (odi))) ?_
    refine sn fun a w hS => ?_
    refine exit_then ?_
    refine wp_ret ?_
    cases h
    exact st_ret hS (run_results1 Try.results126 a w) (hS.get rfl)

theorem f106_ok {p0 : List (List Int)} {p1 : ((List Int) → Option Bool)} {r : Bool} (h : M.f106 p0 p1 = some r) : CallOK Try.prog 106 [isV p0, isV p1] (isV r) := by
  unfold M.f106 at h
  refine callS_of Try.func106 rfl Try.ntmps106 rfl fun F0 w0 a hS => ?_
  refine wp_seq ?_
  refine st_reg mixed (by kernel_rfl) hS ?_
  refine sc (sg (sp_assign (odb))) ?_
  refine sn fun a w hS => ?_
  refine exit_then ?_
  refine wp_seq ?_
  obtain ⟨v_1, e_2, h⟩ := bind_some h
  refine st_reg mixed (by kernel_rfl) hS ?_
  refine sc (sg (sp_move (od rfl))) ?_
  refine sc (sg (sp_move (od rfl))) ?_
  refine sc (sg (sp_call en126 (f126_ok e_2) ⟨od rfl, od rfl, trivial⟩)) ?_
  refine sc (sg (sp_geq (od rfl) (odi))) ?_
  refine sc (sg (sp_assign (od rfl))) ?_
  refine sn fun a w hS => ?_
  refine exit_then ?_
  refine wp_ret ?_
  cases h
  exact st_ret hS (run_results1 Try.results106 a w) (hS.get rfl)

theorem f107_ok {p0 : List Int} {r : Bool} (h : M.f107 p0 = some r) : CallOK Try.prog 107 [isV p0] (isV r) := by
  unfold M.f107 at h
  refine callS_of Try.func107 rfl Try.ntmps107 rfl fun F0 w0 a hS => ?_
  refine wp_seq ?_
  refine st_reg mixed (by kernel_rfl) hS ?_
  refine sc (sg (sp_assign (odb))) ?_
  refine sn fun a w hS => ?_
  refine exit_then ?_
  refine wp_seq ?_
  refine st_reg mixed (by kernel_rfl) hS ?_
  refine sc (sg (sp_move (od rfl))) ?_
  refine sc (sg (sp_len Try.underlying27 (od rfl))) ?_
  refine sc (sg (sp_gtr (od rfl) (odi))) ?_
  refine sc (sg (sp_assign (od rfl))) ?_
  refine sn fun a w hS => ?_
  refine exit_then ?_
  refine wp_ret ?_
  cases h
  exact st_ret hS (run_results1 Try.results107 a w) (hS.get rfl)

theorem f55_ok {p0 : List (List Int)} {r : Bool} (h : M.f55 p0 = some r) : CallOK Try.prog 55 [isV p0] (isV r) := by
  unfold M.f55 at h
  refine callS_of Try.func55 rfl Try.ntmps55 rfl fun F0 w0 a hS => ?_
  refine wp_seq ?_
  refine st_reg mixed (by kernel_rfl) hS ?_
  refine sc (sg (sp_assign (odb))) ?_
  refine sn fun a w hS => ?_
  refine exit_then ?_
  refine wp_seq ?_
  obtain ⟨v_1, e_2, h⟩ := bind_some h
  refine st_reg mixed (by kernel_rfl) hS ?_
  refine sc (sg (sp_move (od rfl))) ?_
  refine sc (sg (sp_call en106 (f106_ok e_2) ⟨od rfl, of_fn137 (f := (fun x0 => M.f107 x0)) en107 (fun _ _ h => f107_ok h), trivial⟩)) ?_
  refine sc (sg (sp_not (od rfl))) ?_
  refine sc (sg (sp_assign (od rfl))) ?_
  refine sn fun a w hS => ?_
  refine exit_then ?_
  refine wp_ret ?_
  cases h
  exact st_ret hS (run_results1 Try.results55 a w) (hS.get rfl)

theorem f37_ok {p0 : S_api_Market} {p1 : List Int} {r : Int × Int} (h : M.f37 p0 p1 = some r) : CallOK Try.prog 37 [isV p0, isV p1] (isTup [isV r.1, isV r.2]) := by
  unfold M.f37 at h
  refine callS_of Try.func37 rfl Try.ntmps37 rfl fun F0 w0 a hS => ?_
  refine wp_seq ?_
  refine st_reg mixed (by kernel_rfl) hS ?_
  refine sc (sg (sp_box (od rfl))) ?_
  refine sc (sg (sp_assign (odi))) ?_
  refine sc (sg (sp_assign (odi))) ?_
  refine sn fun a w hS => ?_
  refine exit_then ?_
  refine wp_seq ?_
  refine wp_seq ?_
  obtain ⟨v_1, e_2, h⟩ := bind_some h
  refine st_reg mixed (by kernel_rfl) hS ?_
  refine sc (sg (sp_load ty24 (od rfl))) ?_
  refine sc (sg (sp_move (od rfl))) ?_
  refine sc (sg (bd106_ )) ?_
  refine sc (sg (sp_call en76 (f76_ok e_2) ⟨od rfl, od rfl, od rfl, trivial⟩)) ?_
  refine sc (sg (sp_assign (od rfl))) ?_
  refine sn fun a w hS => ?_
  refine exit_then ?_
  refine wp_seq ?_
  refine st_reg mixed (by kernel_rfl) hS ?_
  refine sc (sg (sp_move (od rfl))) ?_
  refine sc (sg (sp_neq (od rfl) (odi))) ?_
  refine sn fun a w hS => ?_
  refine exit_then ?_
  refine st_cond hS rfl (fun hb => ?_) (fun hb => ?_)
  · have h := ite_t hb h
    refine wp_seq ?_
    refine st_reg mixed (by kernel_rfl) hS ?_
    refine sc (sg (sp_move (od rfl))) ?_
    refine sc (sg (sp_assign (odi))) ?_
    refine sc (sg (sp_assign (od rfl))) ?_
    refine sn fun a w hS => ?_
    refine exit_then ?_
    refine wp_ret ?_
    refine exit_thenR ?_
    cases h
    exact st_ret hS (run_results2 Try.results37 a w) (⟨_, rfl, hS.get rfl, hS.get rfl, trivial⟩)
  · have h := ite_f hb h
    refine wp_skip ?_
    refine exit_then ?_
    refine wp_seq ?_
    obtain ⟨v_3, e_4, h⟩ := bind_some h
    obtain ⟨v_5, e_6, h⟩ := bind_some h
    refine st_reg mixed (by kernel_rfl) hS ?_
    refine sc (sg (sp_move (od rfl))) ?_
    refine sc (sg (sp_call en92 (f92_ok e_4) ⟨od rfl, trivial⟩)) ?_
    refine sc (sg (sp_load ty24 (od rfl))) ?_
    refine sc (sg (sp_call en82 (f82_ok e_6) ⟨od rfl, od rfl, trivial⟩)) ?_
    refine sc (sg (sp_assign (od rfl))) ?_
    refine sc (sg (sp_assign (odi))) ?_
    refine sn fun a w hS => ?_
    refine exit_then ?_
    refine wp_ret ?_
    cases h
    exact st_ret hS (run_results2 Try.results37 a w) (⟨_, rfl, hS.get rfl, hS.get rfl, trivial⟩)

theorem f90_ok {p0 : Int} {c0 : S_api_Market} {r : Bool} (h : M.f90 p0 c0 = some r) : CallOK Try.prog 90 [isV p0, isA c0] (isV r) := by
  unfold M.f90 at h
  refine callS_of Try.func90 rfl Try.ntmps90 rfl fun F0 w0 a hS => ?_
  refine wp_seq ?_
  refine st_reg mixed (by kernel_rfl) hS ?_
  refine sc (sg (sp_assign (odb))) ?_
  refine sn fun a w hS => ?_
  refine exit_then ?_
  refine wp_seq ?_
  refine st_reg mixed (by kernel_rfl) hS ?_
  refine sc (sg (sp_move (od rfl))) ?_
  refine sc (sg (sp_lss (od rfl) (odi))) ?_
  refine sc (sg (sp_move (od rfl))) ?_
  refine sc (sgF rfl fun hG => sp_move (od rfl)) ?_
  refine sc (sgF rfl fun hG => sp_fieldAddr fd24_0 (od rfl)) ?_
  refine sc (sgF rfl fun hG => sp_load ty3 (odw rfl hG)) ?_
  refine sc (sgF rfl fun hG => sp_geq (odw rfl hG) (odw rfl hG)) ?_
  refine sc (sg (sp_pickOr (od rfl) fun hg => odw rfl (not_t hg))) ?_
  refine sc (sg (sp_assign (od rfl))) ?_
  refine sn fun a w hS => ?_
  refine exit_then ?_
  refine wp_ret ?_
  cases h
  exact st_ret hS (run_results1 Try.results90 a w) (hS.get rfl)

theorem f121_ok {p0 : List Int} {p1 : (Int → Option Bool)} {r : Int} (h : M.f121 p0 p1 = some r) : CallOK Try.prog 121 [isV p0, isV p1] (isV r) := by
  unfold M.f121 at h
  refine callS_of Try.func121 rfl Try.ntmps121 rfl fun F0 w0 a hS => ?_
  refine wp_seq ?_
  refine st_reg mixed (by kernel_rfl) hS ?_
  refine sc (sg (sp_assign (odi))) ?_
  refine sn fun a w hS => ?_
  refine exit_then ?_
  refine wp_seq ?_
  refine wp_seq ?_
  refine st_reg mixed (by kernel_rfl) hS ?_
  refine sc (sg (sp_move (od rfl))) ?_
  refine sc (sg (sp_len Try.underlying27 (od rfl))) ?_
  refine sc (sg (sp_move (odi))) ?_
  refine sn fun a w hS => ?_
  refine exit_then ?_
  refine wp_block ?_
  obtain ⟨o_4, e_5, hr_6⟩ := bind_some h
  refine c_loop (fun K a w => ∃ k i_1 s_3, K = k + 1 ∧ ForI _ _ _ o_4 k i_1 s_3 ∧ St 19 F0 [] [(0, isV (α := List Int) p0), (1, isV (α := (Int → Option Bool)) p1), (7, isV (α := Int) (p0.length : Int)), (8, isV (α := Int) i_1)] w0 a w) ?_ ?_ ⟨_, _, _, rfl, for_init e_5, hS.weak ⟨od rfl, od rfl, od rfl, od rfl, trivial⟩⟩
  · rintro a w ⟨_, _, _, hk, _⟩; cases hk
  rintro K a w ⟨k_4, i_1, s_3, hk, hF_4, hS⟩
  obtain rfl := Nat.succ.inj hk
  refine wp_seq ?_
  refine st_reg mixed (by kernel_rfl) hS ?_
  refine sc (sg (sp_lss (od rfl) (od rfl))) ?_
  refine sn fun a w hS => ?_
  refine exit_then ?_
  refine wp_seq ?_
  refine st_cond hS rfl (fun hb => ?_) (fun hb => ?_)
  · refine wp_skip ?_
    refine exit_then ?_
    obtain ⟨k_4, o, rfl, h, hN_4, hL_4, hw_4⟩ := for_more hF_4 hb
    refine wp_seq ?_
    refine wp_block ?_
    refine wp_seq ?_
    refine st_reg mixed (by kernel_rfl) hS ?_
    refine sc (sg (sp_move (od rfl))) ?_
    refine sc (sg (sp_assign (od rfl))) ?_
    refine sn fun a w hS => ?_
    refine exit_then ?_
    refine wp_seq ?_
    obtain ⟨v_7, e_8, h⟩ := bind_some h
    obtain ⟨v_9, e_10, h⟩ := bind_some h
    refine st_reg mixed (by kernel_rfl) hS ?_
    refine sc (sg (sp_move (od rfl))) ?_
    refine sc (sg (sp_move (od rfl))) ?_
    refine sc (sg (sp_move (od rfl))) ?_
    refine sc (sg (sp_indexAddr sl27 (od rfl) (od rfl) e_8)) ?_
    refine sc (sg (sp_load ty3 (od rfl))) ?_
    refine sc (sg (sp_callV (od_fn121 (od rfl)) ⟨od rfl, trivial⟩ e_10)) ?_
    refine sn fun a w hS => ?_
    refine exit_then ?_
    refine st_cond hS rfl (fun hb => ?_) (fun hb => ?_)
    · have h := ite_t hb h
      refine wp_seq ?_
      refine st_reg mixed (by kernel_rfl) hS ?_
      refine sc (sg (sp_move (od rfl))) ?_
      refine sc (sg (sp_assign (od rfl))) ?_
      refine sn fun a w hS => ?_
      refine exit_then ?_
      refine wp_ret ?_
      refine exit_blockR ?_
      refine exit_thenR ?_
      cases h
      obtain rfl := hL_4 _ rfl
      have h := (elim_leave hr_6)
      refine exit_thenR ?_
      refine exit_blockR ?_
      refine exit_thenR ?_
      cases h
      exact st_ret hS (run_results1 Try.results121 a w) (hS.get rfl)
    · have h := ite_f hb h
      refine wp_skip ?_
      refine exit_block ?_
      refine exit_then ?_
      refine st_reg mixed (by kernel_rfl) hS ?_
      refine sc (sg (sp_add (od rfl) (odi))) ?_
      refine sc (sg (sp_move (od rfl))) ?_
      refine sn fun a w hS => ?_
      cases h
      exact ⟨k_4, _, _, rfl, hN_4 _ rfl, hS.weak ⟨od rfl, od rfl, od rfl, od (congrArg (fun z => some (isV (α := Int) z)) hw_4), trivial⟩⟩
  · refine wp_exit ?_
    obtain rfl := for_done hF_4 hb
    have h := elim_again hr_6
    refine exit_thenE ?_
    refine exit_thenE ?_
    refine exit_here ?_
    refine exit_then ?_
    refine wp_seq ?_
    refine st_reg mixed (by kernel_rfl) hS ?_
    refine sc (sg (sp_assign (odi))) ?_
    refine sn fun a w hS => ?_
    refine exit_then ?_
    refine wp_ret ?_
    cases h
    exact st_ret hS (run_results1 Try.results121 a w) (hS.get rfl)

theorem f89_ok {p0 : List Int} {p1 : (Int → Option Bool)} {r : Bool} (h : M.f89 p0 p1 = some r) : CallOK Try.prog 89 [isV p0, isV p1] (isV r) := by
  unfold M.f89 at h
  refine callS_of Try.func89 rfl Try.ntmps89 rfl fun F0 w0 a hS => ?_
  refine wp_seq ?_
  refine st_reg mixed (by kernel_rfl) hS ?_
  refine sc (sg (sp_assign (odb))) ?_
  refine sn fun a w hS => ?_
  refine exit_then ?_
  refine wp_seq ?_
  obtain ⟨v_1, e_2, h⟩ := bind_some h
  refine st_reg mixed (by kernel_rfl) hS ?_
  refine sc (sg (sp_move (od rfl))) ?_
  refine sc (sg (sp_move (od rfl))) ?_
  refine sc (sg (sp_call en121 (f121_ok e_2) ⟨od rfl, od rfl, trivial⟩)) ?_
  refine sc (sg (sp_geq (od rfl) (odi))) ?_
  refine sc (sg (sp_assign (od rfl))) ?_
  refine sn fun a w hS => ?_
  refine exit_then ?_
  refine wp_ret ?_
  cases h
  exact st_ret hS (run_results1 Try.results89 a w) (hS.get rfl)

theorem f31_ok {fuel : Nat} {p0 : S_api_Market} {p1 : List Int} {p2 : List Int} {r : Bool} (h : M.f31 fuel p0 p1 p2 = some r) : CallOK Try.prog 31 [isV p0, isV p1, isV p2] (isV r) := by
  unfold M.f31 at h
  refine callS_of Try.func31 rfl Try.ntmps31 rfl fun F0 w0 a hS => ?_
  refine wp_seq ?_
  refine st_reg mixed (by kernel_rfl) hS ?_
  refine sc (sg (sp_box (od rfl))) ?_
  refine sc (sg (sp_assign (odb))) ?_
  refine sn fun a w hS => ?_
  refine exit_then ?_
  refine wp_seq ?_
  refine wp_seq ?_
  obtain ⟨v_1, e_2, h⟩ := bind_some h
  obtain ⟨v_3, e_4, h⟩ := bind_some h
  obtain ⟨v_5, e_6, h⟩ := bind_some h
  obtain ⟨v_7, e_8, h⟩ := bind_some h
  obtain ⟨v_9, e_10, h⟩ := bind_some h
  refine st_reg mixed (by kernel_rfl) hS ?_
  refine sc (sg (sp_load ty24 (od rfl))) ?_
  refine sc (sg (sp_call en17 (f17_ok e_2) ⟨od rfl, trivial⟩)) ?_
  refine sc (sg (sp_not (od rfl))) ?_
  refine sc (sg (sp_move (od rfl))) ?_
  refine sc (sgF rfl fun hG => sp_move (od rfl)) ?_
  refine sc (sgF rfl fun hG => sp_buildSlice [.tmp 11] ([p1] : List (List Int)) sl75 ze27 rfl rfl rfl rfl ⟨odw rfl hG, trivial⟩) ?_
  refine sc (sgF rfl fun hG => sp_call en55 (f55_ok (guard_some e_4 hG)) ⟨odw rfl hG, trivial⟩) ?_
  refine sc (sgF rfl fun hG => sp_not (odw rfl hG)) ?_
  refine sc (sg (sp_pickOr (od rfl) fun hg => odw rfl (not_t hg))) ?_
  refine sc (sg (sp_move (od rfl))) ?_
  refine sc (sgF rfl fun hG => sp_load ty24 (od rfl)) ?_
  refine sc (sgF rfl fun hG => sp_call en41 (f41_ok (guard_some e_6 hG)) ⟨odw rfl hG, trivial⟩) ?_
  refine sc (sgF rfl fun hG => sp_neq (odw rfl hG) (odi)) ?_
  refine sc (sg (sp_pickOr (od rfl) fun hg => odw rfl (not_t hg))) ?_
  refine sc (sg (sp_move (od rfl))) ?_
  refine sc (sgF rfl fun hG => sp_load ty24 (od rfl)) ?_
  refine sc (sgF rfl fun hG => sp_call en42 (f42_ok (guard_some e_8 hG)) ⟨odw rfl hG, trivial⟩) ?_
  refine sc (sgF rfl fun hG => sp_neq (odw rfl hG) (odi)) ?_
  refine sc (sg (sp_pickOr (od rfl) fun hg => odw rfl (not_t hg))) ?_
  refine sc (sg (sp_move (od rfl))) ?_
  refine sc (sgF rfl fun hG => sp_load ty24 (od rfl)) ?_
  refine sc (sgF rfl fun hG => sp_move (od rfl)) ?_
  refine sc (sgF rfl fun hG => sp_call en88 (f88_ok (guard_some e_10 hG)) ⟨odw rfl hG, odw rfl hG, trivial⟩) ?_
  refine sc (sgF rfl fun hG => sp_not (odw rfl hG)) ?_
  refine sc (sg (sp_pickOr (od rfl) fun hg => odw rfl (not_t hg))) ?_
  refine sn fun a w hS => ?_
  refine exit_then ?_
  refine st_cond hS rfl (fun hb => ?_) (fun hb => ?_)
  · have h := ite_t hb h
    refine wp_seq ?_
    refine st_reg mixed (by kernel_rfl) hS ?_
    refine sc (sg (sp_assign (odb))) ?_
    refine sn fun a w hS => ?_
    refine exit_then ?_
    refine wp_ret ?_
    refine exit_thenR ?_
    cases h
    exact st_ret hS (run_results1 Try.results31 a w) (hS.get rfl)
  · have h := ite_f hb h
    refine wp_skip ?_
    refine exit_then ?_
    refine wp_seq ?_
    obtain ⟨v_11, e_12, h⟩ := bind_some h
    refine st_reg mixed (by kernel_rfl) hS ?_
    refine sc (sg (sp_move (od rfl))) ?_
    refine sc (sg (mk_fn121 (f := (fun x0 => M.f90 x0 p0)) (κs := [isA (α := S_api_Market) p0]) ⟨fun _ _ _ _ h => h, trivial⟩ en90 ⟨od rfl, trivial⟩ (fun _ _ h => f90_ok h))) ?_
    refine sc (sg (sp_call en89 (f89_ok e_12) ⟨od rfl, od rfl, trivial⟩)) ?_
    refine sc (sg (sp_not (od rfl))) ?_
    refine sc (sg (sp_assign (od rfl))) ?_
    refine sn fun a w hS => ?_
    refine exit_then ?_
    refine wp_ret ?_
    cases h
    exact st_ret hS (run_results1 Try.results31 a w) (hS.get rfl)

theorem f38_ok {p0 : List (Vector Int 2)} {p1 : ((Vector Int 2) → Option Bool)} {r : Int} (h : M.f38 p0 p1 = some r) : CallOK Try.prog 38 [isV p0, isV p1] (isV r) := by
  unfold M.f38 at h
  refine callS_of Try.func38 rfl Try.ntmps38 rfl fun F0 w0 a hS => ?_
  refine wp_seq ?_
  refine st_reg mixed (by kernel_rfl) hS ?_
  refine sc (sg (sp_assign (odi))) ?_
  refine sn fun a w hS => ?_
  refine exit_then ?_
  refine wp_seq ?_
  refine wp_seq ?_
  refine st_reg mixed (by kernel_rfl) hS ?_
  refine sc (sg (sp_move (od rfl))) ?_
  refine sc (sg (sp_len Try.underlying48 (od rfl))) ?_
  refine sc (sg (sp_move (odi))) ?_
  refine sn fun a w hS => ?_
  refine exit_then ?_
  refine wp_block ?_
  obtain ⟨o_4, e_5, hr_6⟩ := bind_some h
  refine c_loop (fun K a w => ∃ k i_1 s_3, K = k + 1 ∧ ForI _ _ _ o_4 k i_1 s_3 ∧ St 19 F0 [] [(0, isV (α := List (Vector Int 2)) p0), (1, isV (α := ((Vector Int 2) → Option Bool)) p1), (7, isV (α := Int) (p0.length : Int)), (8, isV (α := Int) i_1)] w0 a w) ?_ ?_ ⟨_, _, _, rfl, for_init e_5, hS.weak ⟨od rfl, od rfl, od rfl, od rfl, trivial⟩⟩
  · rintro a w ⟨_, _, _, hk, _⟩; cases hk
  rintro K a w ⟨k_4, i_1, s_3, hk, hF_4, hS⟩
  obtain rfl := Nat.succ.inj hk
  refine wp_seq ?_
  refine st_reg mixed (by kernel_rfl) hS ?_
  refine sc (sg (sp_lss (od rfl) (od rfl))) ?_
  refine sn fun a w hS => ?_
  refine exit_then ?_
  refine wp_seq ?_
  refine st_cond hS rfl (fun hb => ?_) (fun hb => ?_)
  · refine wp_skip ?_
    refine exit_then ?_
    obtain ⟨k_4, o, rfl, h, hN_4, hL_4, hw_4⟩ := for_more hF_4 hb
    refine wp_seq ?_
    refine wp_block ?_
    refine wp_seq ?_
    refine st_reg mixed (by kernel_rfl) hS ?_
    refine sc (sg (sp_move (od rfl))) ?_
    refine sc (sg (sp_assign (od rfl))) ?_
    refine sn fun a w hS => ?_
    refine exit_then ?_
    refine wp_seq ?_
    obtain ⟨v_7, e_8, h⟩ := bind_some h
    obtain ⟨v_9, e_10, h⟩ := bind_some h
    refine st_reg mixed (by kernel_rfl) hS ?_
    refine sc (sg (sp_move (od rfl))) ?_
    refine sc (sg (sp_move (od rfl))) ?_
    refine sc (sg (sp_move (od rfl))) ?_
    refine sc (sg (sp_indexAddr sl48 (od rfl) (od rfl) e_8)) ?_
    refine sc (sg (sp_load ty54 (od rfl))) ?_
    refine sc (sg (sp_callV (od_fn55 (od rfl)) ⟨od rfl, trivial⟩ e_10)) ?_
    refine sn fun a w hS => ?_
    refine exit_then ?_
    refine st_cond hS rfl (fun hb => ?_) (fun hb => ?_)
    · have h := ite_t hb h
      refine wp_seq ?_
      refine st_reg mixed (by kernel_rfl) hS ?_
      refine sc (sg (sp_move (od rfl))) ?_
      refine sc (sg (sp_assign (od rfl))) ?_
      refine sn fun a w hS => ?_
      refine exit_then ?_
      refine wp_ret ?_
      refine exit_blockR ?_
      refine exit_thenR ?_
      cases h
      obtain rfl := hL_4 _ rfl
      have h := (elim_leave hr_6)
      refine exit_thenR ?_
      refine exit_blockR ?_
      refine exit_thenR ?_
      cases h
      exact st_ret hS (run_results1 Try.results38 a w) (hS.get rfl)
    · have h := ite_f hb h
      refine wp_skip ?_
      refine exit_block ?_
      refine exit_then ?_
      refine st_reg mixed (by kernel_rfl) hS ?_
      refine sc (sg (sp_add (od rfl) (odi))) ?_
      refine sc (sg (sp_move (od rfl))) ?_
      refine sn fun a w hS => ?_
      cases h
      exact ⟨k_4, _, _, rfl, hN_4 _ rfl, hS.weak ⟨od rfl, od rfl, od rfl, od (congrArg (fun z => some (isV (α := Int) z)) hw_4), trivial⟩⟩
  · refine wp_exit ?_
    obtain rfl := for_done hF_4 hb
    have h := elim_again hr_6
    refine exit_thenE ?_
    refine exit_thenE ?_
    refine exit_here ?_
    refine exit_then ?_
    refine wp_seq ?_
    refine st_reg mixed (by kernel_rfl) hS ?_
    refine sc (sg (sp_assign (odi))) ?_
    refine sn fun a w hS => ?_
    refine exit_then ?_
    refine wp_ret ?_
    cases h
    exact st_ret hS (run_results1 Try.results38 a w) (hS.get rfl)

end Go.Proofs.Ytkbilbeaedocjaa
