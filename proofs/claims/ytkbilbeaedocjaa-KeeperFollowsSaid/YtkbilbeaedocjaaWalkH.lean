/-
  What is proved: each Go function named here returns what its model tells, and changes nothing that was there; where the model tells something.
-/
import Derived.Test.YtkbilbeaedocjaaWalkG
import Derived.Test.YtkbilbeaedocjaaWalkK
import Derived.Test.YtkbilbeaedocjaaModelH
set_option linter.unusedVariables false
set_option maxRecDepth 100000
namespace Go.Proofs.Ytkbilbeaedocjaa
open Go Go.RowKit Go.Proofs.Ytkbilbeaedocjaa.Wh

theorem f44_ok {p0 : List (Vector Int 2)} {r : Bool} (h : M.f44 p0 = some r) : CallOK Try.prog 44 [isV p0] (isV r) := by
  unfold M.f44 at h
  refine callS_of Try.func44 rfl Try.ntmps44 rfl fun F0 w0 a hS => ?_
  refine wp_seq ?_
  refine st_reg mixed (by kernel_rfl) hS ?_
  refine sc (sg (sp_assign (odb))) ?_
  refine sn fun a w hS => ?_
  refine exit_then ?_
  refine wp_seq ?_
  refine st_reg mixed (by kernel_rfl) hS ?_
  refine sc (sg (sp_move (od rfl))) ?_
  refine sc (sg (sp_len Try.underlying48 (od rfl))) ?_
  refine sc (sg (sp_gtr (od rfl) (odi))) ?_
  refine sc (sg (sp_assign (od rfl))) ?_
  refine sn fun a w hS => ?_
  refine exit_then ?_
  refine wp_ret ?_
  cases h
  exact st_ret hS (run_results1 Try.results44 a w) (hS.get rfl)

theorem f99_ok {p0 : List (Vector Int 2)} {p1 : Vector Int 2} {r : Int} (h : M.f99 p0 p1 = some r) : CallOK Try.prog 99 [isV p0, isV p1] (isV r) := by
  unfold M.f99 at h
  refine callS_of Try.func99 rfl Try.ntmps99 rfl fun F0 w0 a hS => ?_
  refine wp_seq ?_
  refine st_reg mixed (by kernel_rfl) hS ?_
  refine sc (sg (sp_box (od rfl))) ?_
  refine sc (sg (sp_assign (odi))) ?_
  refine sn fun a w hS => ?_
  refine exit_then ?_
  refine wp_seq ?_
  refine wp_seq ?_
  refine st_reg mixed (by kernel_rfl) hS ?_
  refine sc (sg (sp_move (od rfl))) ?_
  refine sc (sg (sp_len Try.underlying48 (od rfl))) ?_
  refine sc (sg (sp_move (odi))) ?_
  refine sn fun a w hS => ?_
  refine exit_then ?_
  refine wp_block ?_
  obtain ⟨o_4, e_5, hr_6⟩ := bind_some h
  refine c_loop (fun K a w => ∃ k i_1 s_3, K = k + 1 ∧ ForI _ _ _ o_4 k i_1 s_3 ∧ St 19 F0 [] [(0, isV (α := List (Vector Int 2)) p0), (3, isA (α := Vector Int 2) p1), (7, isV (α := Int) (p0.length : Int)), (8, isV (α := Int) i_1)] w0 a w) ?_ ?_ ⟨_, _, _, rfl, for_init e_5, hS.weak ⟨od rfl, od rfl, od rfl, od rfl, trivial⟩⟩
  · rintro a w ⟨_, _, _, hk, _⟩; cases hk
  rintro K a w ⟨k_4, i_1, s_3, hk, hF_4, hS⟩
  obtain rfl := Nat.succ.inj hk
  refine wp_seq ?_
  refine st_reg mixed (by kernel_rfl) hS ?_
  refine sc (sg (sp_lss (od rfl) (od rfl))) ?_
  refine sn fun a w hS => ?_
  refine exit_then ?_
  refine wp_seq ?_
  refine st_cond hS rfl (fun hb => ?_) (fun hb => ?_)
  · refine wp_skip ?_
    refine exit_then ?_
    obtain ⟨k_4, o, rfl, h, hN_4, hL_4, hw_4⟩ := for_more hF_4 hb
    refine wp_seq ?_
    refine wp_block ?_
    refine wp_seq ?_
    refine st_reg mixed (by kernel_rfl) hS ?_
    refine sc (sg (sp_move (od rfl))) ?_
    refine sc (sg (sp_assign (od rfl))) ?_
    refine sn fun a w hS => ?_
    refine exit_then ?_
    refine wp_seq ?_
    obtain ⟨v_7, e_8, h⟩ := bind_some h
    refine st_reg mixed (by kernel_rfl) hS ?_
    refine sc (sg (sp_load ty54 (od rfl))) ?_
    refine sc (sg (sp_move (od rfl))) ?_
    refine sc (sg (sp_move (od rfl))) ?_
    refine sc (sg (sp_indexAddr sl48 (od rfl) (od rfl) e_8)) ?_
    refine sc (sg (sp_load ty54 (od rfl))) ?_
    refine sc (sg (sp_eqlS eq54 rfl eg54 rfl (od rfl) (od rfl))) ?_
    refine sn fun a w hS => ?_
    refine exit_then ?_
    refine st_cond hS rfl (fun hb => ?_) (fun hb => ?_)
    · have h := ite_t hb h
      refine wp_seq ?_
      refine st_reg mixed (by kernel_rfl) hS ?_
      refine sc (sg (sp_move (od rfl))) ?_
      refine sc (sg (sp_assign (od rfl))) ?_
      refine sn fun a w hS => ?_
      refine exit_then ?_
      refine wp_ret ?_
      refine exit_blockR ?_
      refine exit_thenR ?_
      cases h
      obtain rfl := hL_4 _ rfl
      have h := (elim_leave hr_6)
      refine exit_thenR ?_
      refine exit_blockR ?_
      refine exit_thenR ?_
      cases h
      exact st_ret hS (run_results1 Try.results99 a w) (hS.get rfl)
    · have h := ite_f hb h
      refine wp_skip ?_
      refine exit_block ?_
      refine exit_then ?_
      refine st_reg mixed (by kernel_rfl) hS ?_
      refine sc (sg (sp_add (od rfl) (odi))) ?_
      refine sc (sg (sp_move (od rfl))) ?_
      refine sn fun a w hS => ?_
      cases h
      exact ⟨k_4, _, _, rfl, hN_4 _ rfl, hS.weak ⟨od rfl, od rfl, od rfl, od (congrArg (fun z => some (isV (α := Int) z)) hw_4), trivial⟩⟩
  · refine wp_exit ?_
    obtain rfl := for_done hF_4 hb
    have h := elim_again hr_6
    refine exit_thenE ?_
    refine exit_thenE ?_
    refine exit_here ?_
    refine exit_then ?_
    refine wp_seq ?_
    refine st_reg mixed (by kernel_rfl) hS ?_
    refine sc (sg (sp_assign (odi))) ?_
    refine sn fun a w hS => ?_
    refine exit_then ?_
    refine wp_ret ?_
    cases h
    exact st_ret hS (run_results1 Try.results99 a w) (hS.get rfl)

theorem f47_ok {p0 : List (Vector Int 2)} {p1 : Vector Int 2} {r : Bool} (h : M.f47 p0 p1 = some r) : CallOK Try.prog 47 [isV p0, isV p1] (isV r) := by
  unfold M.f47 at h
  refine callS_of Try.func47 rfl Try.ntmps47 rfl fun F0 w0 a hS => ?_
  refine wp_seq ?_
  refine st_reg mixed (by kernel_rfl) hS ?_
  refine sc (sg (sp_box (od rfl))) ?_
  refine sc (sg (sp_assign (odb))) ?_
  refine sn fun a w hS => ?_
  refine exit_then ?_
  refine wp_seq ?_
  obtain ⟨v_1, e_2, h⟩ := bind_some h
  refine st_reg mixed (by kernel_rfl) hS ?_
  refine sc (sg (sp_move (od rfl))) ?_
  refine sc (sg (sp_load ty54 (od rfl))) ?_
  refine sc (sg (sp_call en99 (f99_ok e_2) ⟨od rfl, od rfl, trivial⟩)) ?_
  refine sc (sg (sp_geq (od rfl) (odi))) ?_
  refine sc (sg (sp_assign (od rfl))) ?_
  refine sn fun a w hS => ?_
  refine exit_then ?_
  refine wp_ret ?_
  cases h
  exact st_ret hS (run_results1 Try.results47 a w) (hS.get rfl)

theorem f49_ok {p0 : Vector Int 2} {c0 : Vector Int 2} {r : Bool} (h : M.f49 p0 c0 = some r) : CallOK Try.prog 49 [isV p0, isA c0] (isV r) := by
  unfold M.f49 at h
  refine callS_of Try.func49 rfl Try.ntmps49 rfl fun F0 w0 a hS => ?_
  refine wp_seq ?_
  refine st_reg mixed (by kernel_rfl) hS ?_
  refine sc (sg (sp_box (od rfl))) ?_
  refine sc (sg (sp_assign (odb))) ?_
  refine sn fun a w hS => ?_
  refine exit_then ?_
  refine wp_seq ?_
  obtain ⟨v_1, e_2, h⟩ := bind_some h
  obtain ⟨v_3, e_4, h⟩ := bind_some h
  obtain ⟨v_5, e_6, h⟩ := bind_some h
  obtain ⟨v_7, e_8, h⟩ := bind_some h
  refine st_reg mixed (by kernel_rfl) hS ?_
  refine sc (sg (sp_indexAddrA ar54 (od rfl) (odi) e_2)) ?_
  refine sc (sg (sp_load ty3 (od rfl))) ?_
  refine sc (sg (sp_indexAddrA ar54 (od rfl) (odi) e_4)) ?_
  refine sc (sg (sp_load ty3 (od rfl))) ?_
  refine sc (sg (sp_leq (od rfl) (od rfl))) ?_
  refine sc (sg (sp_move (od rfl))) ?_
  refine sc (sgT rfl fun hG => sp_indexAddrA ar54 (od rfl) (odi) (guard_some e_6 hG)) ?_
  refine sc (sgT rfl fun hG => sp_load ty3 (odw rfl hG)) ?_
  refine sc (sgT rfl fun hG => sp_indexAddrA ar54 (od rfl) (odi) (guard_some e_8 hG)) ?_
  refine sc (sgT rfl fun hG => sp_load ty3 (odw rfl hG)) ?_
  refine sc (sgT rfl fun hG => sp_leq (odw rfl hG) (odw rfl hG)) ?_
  refine sc (sg (sp_pickAnd (od rfl) fun hg => odw rfl hg)) ?_
  refine sc (sg (sp_assign (od rfl))) ?_
  refine sn fun a w hS => ?_
  refine exit_then ?_
  refine wp_ret ?_
  cases h
  exact st_ret hS (run_results1 Try.results49 a w) (hS.get rfl)

theorem f48_ok {p0 : List (Vector Int 2)} {p1 : ((Vector Int 2) → Option Bool)} {r : Bool} (h : M.f48 p0 p1 = some r) : CallOK Try.prog 48 [isV p0, isV p1] (isV r) := by
  unfold M.f48 at h
  refine callS_of Try.func48 rfl Try.ntmps48 rfl fun F0 w0 a hS => ?_
  refine wp_seq ?_
  refine st_reg mixed (by kernel_rfl) hS ?_
  refine sc (sg (sp_assign (odb))) ?_
  refine sn fun a w hS => ?_
  refine exit_then ?_
  refine wp_seq ?_
  obtain ⟨v_1, e_2, h⟩ := bind_some h
  refine st_reg mixed (by kernel_rfl) hS ?_
  refine sc (sg (sp_move (od rfl))) ?_
  refine sc (sg (sp_move (od rfl))) ?_
  refine sc (sg (sp_call en38 (f38_ok e_2) ⟨od rfl, od rfl, trivial⟩)) ?_
  refine sc (sg (sp_geq (od rfl) (odi))) ?_
  refine sc (sg (sp_assign (od rfl))) ?_
  refine sn fun a w hS => ?_
  refine exit_then ?_
  refine wp_ret ?_
  cases h
  exact st_ret hS (run_results1 Try.results48 a w) (hS.get rfl)

theorem f8_ok {fuel : Nat} {p0 : S_api_Market} {p1 : Int} {r : Bool} (h : M.f8 fuel p0 p1 = some r) : CallOK Try.prog 8 [isV p0, isV p1] (isV r) := by
  unfold M.f8 at h
  refine callS_of Try.func8 rfl Try.ntmps8 rfl fun F0 w0 a hS => ?_
  refine wp_seq ?_
  refine st_reg mixed (by kernel_rfl) hS ?_
  refine sc (sg (sp_box (od rfl))) ?_
  refine sc (sg (sp_assign (odb))) ?_
  refine sn fun a w hS => ?_
  refine exit_then ?_
  refine wp_seq ?_
  refine wp_seq ?_
  obtain ⟨v_1, e_2, h⟩ := bind_some h
  refine st_reg mixed (by kernel_rfl) hS ?_
  refine sc (sg (sp_call en16 (f16_ok e_2) trivial)) ?_
  refine sc (sg (sp_not (od rfl))) ?_
  refine sn fun a w hS => ?_
  refine exit_then ?_
  refine st_cond hS rfl (fun hb => ?_) (fun hb => ?_)
  · have h := ite_t hb h
    refine wp_seq ?_
    refine st_reg mixed (by kernel_rfl) hS ?_
    refine sc (sg (sp_assign (odb))) ?_
    refine sn fun a w hS => ?_
    refine exit_then ?_
    refine wp_ret ?_
    refine exit_thenR ?_
    cases h
    exact st_ret hS (run_results1 Try.results8 a w) (hS.get rfl)
  · have h := ite_f hb h
    refine wp_skip ?_
    refine exit_then ?_
    refine wp_seq ?_
    refine wp_seq ?_
    obtain ⟨v_3, e_4, h⟩ := bind_some h
    refine st_reg mixed (by kernel_rfl) hS ?_
    refine sc (sg (sp_load ty24 (od rfl))) ?_
    refine sc (sg (sp_move (od rfl))) ?_
    refine sc (sg (sp_buildSlice [.tmp 24] ([p1] : List Int) sl27 ze3 rfl rfl rfl rfl ⟨od rfl, trivial⟩)) ?_
    refine sc (sg (sp_call en31 (f31_ok e_4) ⟨od rfl, odnil (α := Int), od rfl, trivial⟩)) ?_
    refine sc (sg (sp_not (od rfl))) ?_
    refine sn fun a w hS => ?_
    refine exit_then ?_
    refine st_cond hS rfl (fun hb => ?_) (fun hb => ?_)
    · have h := ite_t hb h
      refine wp_seq ?_
      refine st_reg mixed (by kernel_rfl) hS ?_
      refine sc (sg (sp_assign (odb))) ?_
      refine sn fun a w hS => ?_
      refine exit_then ?_
      refine wp_ret ?_
      refine exit_thenR ?_
      cases h
      exact st_ret hS (run_results1 Try.results8 a w) (hS.get rfl)
    · have h := ite_f hb h
      refine wp_skip ?_
      refine exit_then ?_
      refine wp_seq ?_
      obtain ⟨v_5, e_6, h⟩ := bind_some h
      refine st_reg mixed (by kernel_rfl) hS ?_
      refine sc (sg (sp_load ty24 (od rfl))) ?_
      refine sc (sg (sp_move (od rfl))) ?_
      refine sc (sg (sp_call en34 (f34_ok e_6) ⟨od rfl, od rfl, trivial⟩)) ?_
      refine sc (sg (sp_move (od rfl))) ?_
      refine sc (sg (sp_extract (od rfl) rfl)) ?_
      refine sc (sg (sp_extract (od rfl) rfl)) ?_
      refine sc (sg (sp_assign (od rfl))) ?_
      refine sc (sg (sp_assign (od rfl))) ?_
      refine sn fun a w hS => ?_
      refine exit_then ?_
      refine wp_seq ?_
      refine wp_seq ?_
      obtain ⟨v_7, e_8, h⟩ := bind_some h
      obtain ⟨v_9, e_10, h⟩ := bind_some h
      obtain ⟨v_11, e_12, h⟩ := bind_some h
      refine st_reg mixed (by kernel_rfl) hS ?_
      refine sc (sg (sp_move (od rfl))) ?_
      refine sc (sg (sp_neq (od rfl) (odi))) ?_
      refine sc (sg (sp_move (od rfl))) ?_
      refine sc (sgF rfl fun hG => sp_move (od rfl)) ?_
      refine sc (sgF rfl fun hG => sp_len Try.underlying44 (odw rfl hG)) ?_
      refine sc (sgF rfl fun hG => sp_fieldAddr fd24_0 (od rfl)) ?_
      refine sc (sgF rfl fun hG => sp_load ty3 (odw rfl hG)) ?_
      refine sc (sgF rfl fun hG => sp_neq (odw rfl hG) (odw rfl hG)) ?_
      refine sc (sg (sp_pickOr (od rfl) fun hg => odw rfl (not_t hg))) ?_
      refine sc (sg (sp_move (od rfl))) ?_
      refine sc (sgF rfl fun hG => sp_move (od rfl)) ?_
      refine sc (sgF rfl fun hG => sp_call en43 (f43_ok (guard_some e_8 hG)) ⟨odw rfl hG, of_fn63 (f := (fun x0 => M.f44 x0)) en44 (fun _ _ h => f44_ok h), trivial⟩) ?_
      refine sc (sg (sp_pickOr (od rfl) fun hg => odw rfl (not_t hg))) ?_
      refine sc (sg (sp_move (od rfl))) ?_
      refine sc (sgF rfl fun hG => sp_move (od rfl)) ?_
      refine sc (sgF rfl fun hG => sp_move (od rfl)) ?_
      refine sc (sgF rfl fun hG => sp_indexAddr sl44 (odw rfl hG) (odw rfl hG) (guard_some e_10 hG)) ?_
      refine sc (sgF rfl fun hG => sp_load ty48 (odw rfl hG)) ?_
      refine sc (sgF rfl fun hG => bz54) ?_
      refine sc (sgF rfl fun hG => sp_buildSlice [.tmp 52] ([(#v[0, 0] : Vector Int 2)] : List (Vector Int 2)) sl48 ze54 rfl rfl rfl rfl ⟨odw rfl hG, trivial⟩) ?_
      refine sc (sgF rfl fun hG => sp_call en45 (f45_ok (guard_some e_12 hG)) ⟨odw rfl hG, odw rfl hG, trivial⟩) ?_
      refine sc (sgF rfl fun hG => sp_not (odw rfl hG)) ?_
      refine sc (sg (sp_pickOr (od rfl) fun hg => odw rfl (not_t hg))) ?_
      refine sn fun a w hS => ?_
      refine exit_then ?_
      refine st_cond hS rfl (fun hb => ?_) (fun hb => ?_)
      · have h := ite_t hb h
        refine wp_seq ?_
        refine st_reg mixed (by kernel_rfl) hS ?_
        refine sc (sg (sp_assign (odb))) ?_
        refine sn fun a w hS => ?_
        refine exit_then ?_
        refine wp_ret ?_
        refine exit_thenR ?_
        cases h
        exact st_ret hS (run_results1 Try.results8 a w) (hS.get rfl)
      · have h := ite_f hb h
        refine wp_skip ?_
        refine exit_then ?_
        refine wp_seq ?_
        obtain ⟨v_13, e_14, h⟩ := bind_some h
        refine st_reg mixed (by kernel_rfl) hS ?_
        refine sc (sg (sp_fieldAddr fd24_1 (od rfl))) ?_
        refine sc (sg (sp_load ty22 (od rfl))) ?_
        refine sc (sg (sp_fieldAddr fd24_2 (od rfl))) ?_
        refine sc (sg (sp_load ty22 (od rfl))) ?_
        refine sc (sg (sp_buildSlice [.tmp 58, .tmp 60] ([p0.2.1, p0.2.2] : List (List S_api_Offer)) sl128 ze22 rfl rfl rfl rfl ⟨od rfl, od rfl, trivial⟩)) ?_
        refine sc (sg (sp_call en46 (f46_ok e_14) ⟨od rfl, trivial⟩)) ?_
        refine sc (sg (sp_assign (od rfl))) ?_
        refine sn fun a w hS => ?_
        refine exit_then ?_
        refine wp_seq ?_
        refine wp_seq ?_
        refine st_reg mixed (by kernel_rfl) hS ?_
        refine sc (sg (sp_move (od rfl))) ?_
        refine sc (sg (sp_len Try.underlying44 (od rfl))) ?_
        refine sc (sg (sp_move (odi))) ?_
        refine sn fun a w hS => ?_
        refine exit_then ?_
        refine wp_block ?_
        obtain ⟨o_18, e_19, hr_20⟩ := bind_some h
        refine c_loop (fun K a w => ∃ k i_15 s_17, K = k + 1 ∧ ForI _ _ _ o_18 k i_15 s_17 ∧ St 176 F0 [] [(1, isV (α := Int) p1), (5, isV (α := List (List (Vector Int 2))) v_5.1), (7, isV (α := List S_api_Offer) v_13), (63, isV (α := List (List (Vector Int 2))) v_5.1), (64, isV (α := Int) (v_5.1.length : Int)), (65, isV (α := Int) i_15)] w0 a w) ?_ ?_ ⟨_, _, _, rfl, for_init e_19, hS.weak ⟨od rfl, od rfl, od rfl, od rfl, od rfl, od rfl, trivial⟩⟩
        · rintro a w ⟨_, _, _, hk, _⟩; cases hk
        rintro K a w ⟨k_18, i_15, s_17, hk, hF_18, hS⟩
        obtain rfl := Nat.succ.inj hk
        refine wp_seq ?_
        refine st_reg mixed (by kernel_rfl) hS ?_
        refine sc (sg (sp_lss (od rfl) (od rfl))) ?_
        refine sn fun a w hS => ?_
        refine exit_then ?_
        refine wp_seq ?_
        refine st_cond hS rfl (fun hb => ?_) (fun hb => ?_)
        · refine wp_skip ?_
          refine exit_then ?_
          obtain ⟨k_18, o, rfl, h, hN_18, hL_18, hw_18⟩ := for_more hF_18 hb
          refine wp_seq ?_
          refine wp_block ?_
          refine wp_seq ?_
          obtain ⟨v_21, e_22, h⟩ := bind_some h
          refine st_reg mixed (by kernel_rfl) hS ?_
          refine sc (sg (sp_move (od rfl))) ?_
          refine sc (sg (sp_indexAddr sl44 (od rfl) (od rfl) e_22)) ?_
          refine sc (sg (sp_load ty48 (od rfl))) ?_
          refine sc (sg (sp_assign (od rfl))) ?_
          refine sc (sg (sp_assign (od rfl))) ?_
          refine sn fun a w hS => ?_
          refine exit_then ?_
          refine wp_seq ?_
          refine st_reg mixed (by kernel_rfl) hS ?_
          refine sc (sg (sp_assign (φ := Pr.is (.slice none 0 0)) (odc fun _ => rfl))) ?_
          refine sn fun a w hS => ?_
          have hS := st_nil (α := Vector Int 2) 54 hS
          have hS : St _ F0 [Item.sl (α := Vector Int 2) 54 (.slice none 0 0) ([] : List (Vector Int 2))] _ w0 _ _ := hS
          refine exit_then ?_
          refine wp_seq ?_
          refine wp_seq ?_
          refine st_reg mixed (by kernel_rfl) hS ?_
          refine sc (sg (sp_move (od rfl))) ?_
          refine sc (sg (sp_len Try.underlying22 (od rfl))) ?_
          refine sc (sg (sp_move (odi))) ?_
          refine sn fun a w hS => ?_
          refine exit_then ?_
          refine wp_block ?_
          obtain ⟨o_26, e_27, hr_28⟩ := bind_some h
          refine c_loop (fun K a w => ∃ k i_23 s_25, ∃ u_29 : Value, K = k + 1 ∧ ForT _ _ _ o_26 k i_23 s_25 ∧ St 176 F0 [Item.sl (α := Vector Int 2) 54 u_29 s_25] [(1, isV (α := Int) p1), (5, isV (α := List (List (Vector Int 2))) v_5.1), (7, isV (α := List S_api_Offer) v_13), (8, isV (α := Int) i_15), (9, isV (α := List (Vector Int 2)) v_21), (10, Pr.is u_29), (63, isV (α := List (List (Vector Int 2))) v_5.1), (64, isV (α := Int) (v_5.1.length : Int)), (65, isV (α := Int) i_15), (70, isV (α := List S_api_Offer) v_13), (71, isV (α := Int) (v_13.length : Int)), (72, isV (α := Int) i_23)] w0 a w) ?_ ?_ ⟨_, _, _, (.slice none 0 0), rfl, fors_init e_27, hS.weak ⟨od rfl, od rfl, od rfl, od rfl, od rfl, od rfl, od rfl, od rfl, od rfl, od rfl, od rfl, od rfl, trivial⟩⟩
          · rintro a w ⟨_, _, _, _, hk, _⟩; cases hk
          rintro K a w ⟨k_26, i_23, s_25, u_29, hk, hF_26, hS⟩
          obtain rfl := Nat.succ.inj hk
          refine wp_seq ?_
          refine st_reg mixed (by kernel_rfl) hS ?_
          refine sc (sg (sp_lss (od rfl) (od rfl))) ?_
          refine sn fun a w hS => ?_
          refine exit_then ?_
          refine wp_seq ?_
          refine st_cond hS rfl (fun hb => ?_) (fun hb => ?_)
          · refine wp_skip ?_
            refine exit_then ?_
            obtain ⟨k_26, s', rfl, h, hF_26, hw_26⟩ := fors_more hF_26 hb
            refine wp_seq ?_
            refine wp_block ?_
            refine wp_seq ?_
            obtain ⟨v_30, e_31, h⟩ := bind_some h
            refine l_start ?_
            refine s_c hS (sg (sp_indexAddr sl22 (od rfl) (od rfl) e_31)) rfl fun a w hS hM => ?_
            refine s_c hS (sg (sp_load ty59 (od rfl))) rfl fun a w hS hM => ?_
            refine s_allocStore ze59 hS (od rfl) (fun k hk => by cases hk; rfl) rfl fun a w hS hM => ?_
            refine l_end ?_
            refine exit_then ?_
            refine wp_seq ?_
            refine st_reg mixed (by kernel_rfl) hS ?_
            refine sc (sg (sp_fieldAddr fd59_0 (od rfl))) ?_
            refine sc (sg (sp_load ty3 (od rfl))) ?_
            refine sc (sg (sp_fieldAddr fd59_1 (od rfl))) ?_
            refine sc (sg (sp_load ty3 (od rfl))) ?_
            refine sc (sg (bd54 (od rfl) (od rfl))) ?_
            refine sc (sg (sp_fieldAddr fd59_1 (od rfl))) ?_
            refine sc (sg (sp_load ty3 (od rfl))) ?_
            refine sc (sg (sp_fieldAddr fd59_0 (od rfl))) ?_
            refine sc (sg (sp_load ty3 (od rfl))) ?_
            refine sc (sg (bd54 (od rfl) (od rfl))) ?_
            refine sc (sg (sp_buildArr [.tmp 80, .tmp 85] [(#v[v_30.1, v_30.2.1] : Vector Int 2), (#v[v_30.2.1, v_30.1] : Vector Int 2)] (v := #v[(#v[v_30.1, v_30.2.1] : Vector Int 2), (#v[v_30.2.1, v_30.1] : Vector Int 2)]) ar66 za66 rfl rfl rfl rfl rfl ⟨(od rfl), (od rfl), trivial⟩)) ?_
            refine sc (sg (sp_move (odi))) ?_
            refine sn fun a w hS => ?_
            refine exit_then ?_
            refine wp_block ?_
            obtain ⟨o_35, e_36, hr_37⟩ := bind_some h
            refine c_loop (fun K a w => ∃ k i_32 s_34, ∃ u_38 : Value, K = k + 1 ∧ ForT _ _ _ o_35 k i_32 s_34 ∧ St 176 F0 [Item.sl (α := Vector Int 2) 54 u_38 s_34] [(1, isV (α := Int) p1), (5, isV (α := List (List (Vector Int 2))) v_5.1), (7, isV (α := List S_api_Offer) v_13), (8, isV (α := Int) i_15), (9, isV (α := List (Vector Int 2)) v_21), (10, Pr.is u_38), (12, isA (α := S_api_Offer) v_30), (63, isV (α := List (List (Vector Int 2))) v_5.1), (64, isV (α := Int) (v_5.1.length : Int)), (65, isV (α := Int) i_15), (70, isV (α := List S_api_Offer) v_13), (71, isV (α := Int) (v_13.length : Int)), (72, isV (α := Int) i_23), (86, isV (α := Vector (Vector Int 2) 2) (#v[(#v[v_30.1, v_30.2.1] : Vector Int 2), (#v[v_30.2.1, v_30.1] : Vector Int 2)] : Vector (Vector Int 2) 2)), (87, isV (α := Int) i_32)] w0 a w) ?_ ?_ ⟨_, _, _, u_29, rfl, fors_init e_36, hS.weak ⟨od rfl, od rfl, od rfl, od rfl, od rfl, od rfl, od rfl, od rfl, od rfl, od rfl, od rfl, od rfl, od rfl, od rfl, od rfl, trivial⟩⟩
            · rintro a w ⟨_, _, _, _, hk, _⟩; cases hk
            rintro K a w ⟨k_35, i_32, s_34, u_38, hk, hF_35, hS⟩
            obtain rfl := Nat.succ.inj hk
            refine wp_seq ?_
            refine st_reg mixed (by kernel_rfl) hS ?_
            refine sc (sg (sp_lss (od rfl) (odi))) ?_
            refine sn fun a w hS => ?_
            refine exit_then ?_
            refine wp_seq ?_
            refine st_cond hS rfl (fun hb => ?_) (fun hb => ?_)
            · refine wp_skip ?_
              refine exit_then ?_
              obtain ⟨k_35, s', rfl, h, hF_35, hw_35⟩ := fors_more hF_35 hb
              refine wp_seq ?_
              refine wp_block ?_
              refine wp_seq ?_
              obtain ⟨v_39, e_40, h⟩ := bind_some h
              refine l_start ?_
              refine s_c hS (sg (sp_indexA ar66 (od rfl) (od rfl) e_40)) rfl fun a w hS hM => ?_
              refine s_allocStore ze54 hS (od rfl) (fun k hk => by cases hk; rfl) rfl fun a w hS hM => ?_
              refine l_end ?_
              refine exit_then ?_
              refine wp_seq ?_
              refine wp_seq ?_
              obtain ⟨v_41, e_42, h⟩ := bind_some h
              refine st_reg mixed (by kernel_rfl) hS ?_
              refine sc (sg (sp_indexAddrA ar54 (od rfl) (odi) e_42)) ?_
              refine sc (sg (sp_load ty3 (od rfl))) ?_
              refine sc (sg (sp_move (od rfl))) ?_
              refine sc (sg (sp_neq (od rfl) (od rfl))) ?_
              refine sn fun a w hS => ?_
              refine exit_then ?_
              refine st_cond hS rfl (fun hb => ?_) (fun hb => ?_)
              · have h := ite_t hb h
                refine wp_exit ?_
                refine exit_thenE ?_
                refine exit_here ?_
                refine exit_then ?_
                refine st_reg mixed (by kernel_rfl) hS ?_
                refine sc (sg (sp_add (od rfl) (odi))) ?_
                refine sc (sg (sp_move (od rfl))) ?_
                refine sn fun a w hS => ?_
                cases h
                exact ⟨k_35, _, _, u_38, rfl, hF_35, hS.weak ⟨od rfl, od rfl, od rfl, od rfl, od rfl, od rfl, od rfl, od rfl, od rfl, od rfl, od rfl, od rfl, od rfl, od rfl, od (congrArg (fun z => some (isV (α := Int) z)) hw_35), trivial⟩⟩
              · have h := ite_f hb h
                refine wp_skip ?_
                refine exit_then ?_
                refine wp_seq ?_
                obtain ⟨v_43, e_44, h⟩ := bind_some h
                obtain ⟨v_45, e_46, h⟩ := bind_some h
                refine st_reg mixed (by kernel_rfl) hS ?_
                refine sc (sg (sp_move (od rfl))) ?_
                refine sc (sg (sp_indexAddrA ar54 (od rfl) (odi) e_44)) ?_
                refine sc (sg (sp_load ty3 (od rfl))) ?_
                refine sc (sg (sp_indexAddr sl44 (od rfl) (od rfl) e_46)) ?_
                refine sc (sg (sp_load ty48 (od rfl))) ?_
                refine sc (sg (sp_len Try.underlying48 (od rfl))) ?_
                refine sc (sg (sp_move (odi))) ?_
                refine sn fun a w hS => ?_
                refine exit_then ?_
                refine wp_block ?_
                obtain ⟨o_50, e_51, hr_52⟩ := bind_some h
                refine c_loop (fun K a w => ∃ k i_47 s_49, ∃ u_53 : Value, K = k + 1 ∧ ForT _ _ _ o_50 k i_47 s_49 ∧ St 176 F0 [Item.sl (α := Vector Int 2) 54 u_53 s_49] [(1, isV (α := Int) p1), (5, isV (α := List (List (Vector Int 2))) v_5.1), (7, isV (α := List S_api_Offer) v_13), (8, isV (α := Int) i_15), (9, isV (α := List (Vector Int 2)) v_21), (10, Pr.is u_53), (12, isA (α := S_api_Offer) v_30), (63, isV (α := List (List (Vector Int 2))) v_5.1), (64, isV (α := Int) (v_5.1.length : Int)), (65, isV (α := Int) i_15), (70, isV (α := List S_api_Offer) v_13), (71, isV (α := Int) (v_13.length : Int)), (72, isV (α := Int) i_23), (86, isV (α := Vector (Vector Int 2) 2) (#v[(#v[v_30.1, v_30.2.1] : Vector Int 2), (#v[v_30.2.1, v_30.1] : Vector Int 2)] : Vector (Vector Int 2) 2)), (87, isV (α := Int) i_32), (98, isV (α := List (Vector Int 2)) v_45), (99, isV (α := Int) (v_45.length : Int)), (100, isV (α := Int) i_47)] w0 a w) ?_ ?_ ⟨_, _, _, u_38, rfl, fors_init e_51, hS.weak ⟨od rfl, od rfl, od rfl, od rfl, od rfl, od rfl, od rfl, od rfl, od rfl, od rfl, od rfl, od rfl, od rfl, od rfl, od rfl, od rfl, od rfl, od rfl, trivial⟩⟩
                · rintro a w ⟨_, _, _, _, hk, _⟩; cases hk
                rintro K a w ⟨k_50, i_47, s_49, u_53, hk, hF_50, hS⟩
                obtain rfl := Nat.succ.inj hk
                refine wp_seq ?_
                refine st_reg mixed (by kernel_rfl) hS ?_
                refine sc (sg (sp_lss (od rfl) (od rfl))) ?_
                refine sn fun a w hS => ?_
                refine exit_then ?_
                refine wp_seq ?_
                refine st_cond hS rfl (fun hb => ?_) (fun hb => ?_)
                · refine wp_skip ?_
                  refine exit_then ?_
                  obtain ⟨k_50, s', rfl, h, hF_50, hw_50⟩ := fors_more hF_50 hb
                  refine wp_seq ?_
                  refine wp_block ?_
                  refine wp_seq ?_
                  obtain ⟨v_54, e_55, h⟩ := bind_some h
                  refine l_start ?_
                  refine s_c hS (sg (sp_indexAddr sl48 (od rfl) (od rfl) e_55)) rfl fun a w hS hM => ?_
                  refine s_c hS (sg (sp_load ty54 (od rfl))) rfl fun a w hS hM => ?_
                  refine s_allocStore ze54 hS (od rfl) (fun k hk => by cases hk; rfl) rfl fun a w hS hM => ?_
                  refine l_end ?_
                  refine exit_then ?_
                  obtain ⟨v_56, e_57, h⟩ := bind_some h
                  obtain ⟨v_58, e_59, h⟩ := bind_some h
                  obtain ⟨z_60, e_61, h⟩ := bind_some h
                  refine l_start ?_
                  refine s_c hS (sg (sp_move (od rfl))) rfl fun a w hS hM => ?_
                  refine s_c hS (sg (sp_indexAddrA ar54 (od rfl) (odi) e_57)) rfl fun a w hS hM => ?_
                  refine s_c hS (sg (sp_load ty3 (od rfl))) rfl fun a w hS hM => ?_
                  refine s_c hS (sg (sp_fieldAddr fd59_2 (od rfl))) rfl fun a w hS hM => ?_
                  refine s_c hS (sg (sp_load ty3 (od rfl))) rfl fun a w hS hM => ?_
                  refine s_c hS (sg (sp_add (od rfl) (od rfl))) rfl fun a w hS hM => ?_
                  refine s_c hS (sg (sp_indexAddrA ar54 (od rfl) (odi) e_59)) rfl fun a w hS hM => ?_
                  refine s_c hS (sg (sp_load ty3 (od rfl))) rfl fun a w hS hM => ?_
                  refine s_c hS (sg (sp_fieldAddr fd59_3 (od rfl))) rfl fun a w hS hM => ?_
                  refine s_c hS (sg (sp_load ty3 (od rfl))) rfl fun a w hS hM => ?_
                  refine s_c hS (sg (sp_add (od rfl) (od rfl))) rfl fun a w hS hM => ?_
                  refine s_c hS (sg (bd54 (od rfl) (od rfl))) rfl fun a w hS hM => ?_
                  refine s_c hS (sg (sp_buildSlice [.tmp 115] ([(#v[(wr (v_56 + v_30.2.2.1)), (wr (v_58 + v_30.2.2.2))] : Vector Int 2)] : List (Vector Int 2)) sl48 ze54 rfl rfl rfl rfl ⟨od rfl, trivial⟩)) rfl fun a w hS hM => ?_
                  refine s_append (k := 0) (Δ := [(1, isV (α := Int) p1), (5, isV (α := List (List (Vector Int 2))) v_5.1), (7, isV (α := List S_api_Offer) v_13), (8, isV (α := Int) i_15), (9, isV (α := List (Vector Int 2)) v_21), (12, isA (α := S_api_Offer) v_30), (63, isV (α := List (List (Vector Int 2))) v_5.1), (64, isV (α := Int) (v_5.1.length : Int)), (65, isV (α := Int) i_15), (70, isV (α := List S_api_Offer) v_13), (71, isV (α := Int) (v_13.length : Int)), (72, isV (α := Int) i_23), (86, isV (α := Vector (Vector Int 2) 2) (#v[(#v[v_30.1, v_30.2.1] : Vector Int 2), (#v[v_30.2.1, v_30.1] : Vector Int 2)] : Vector (Vector Int 2) 2)), (87, isV (α := Int) i_32), (98, isV (α := List (Vector Int 2)) v_45), (99, isV (α := Int) (v_45.length : Int)), (100, isV (α := Int) i_47), (104, Pr.is u_53), (116, isV (α := List (Vector Int 2)) ([(#v[(wr (v_56 + v_30.2.2.1)), (wr (v_58 + v_30.2.2.2))] : Vector Int 2)] : List (Vector Int 2)))]) sl48 ze54 hS rfl ⟨od rfl, od rfl, od rfl, od rfl, od rfl, od rfl, od rfl, od rfl, od rfl, od rfl, od rfl, od rfl, od rfl, od rfl, od rfl, od rfl, od rfl, od rfl, od rfl, trivial⟩ ⟨fun _ _ _ _ h => h, fun _ _ _ _ h => h, fun _ _ _ _ h => h, fun _ _ _ _ h => h, fun _ _ _ _ h => h, fun _ _ _ _ h => h, fun _ _ _ _ h => h, fun _ _ _ _ h => h, fun _ _ _ _ h => h, fun _ _ _ _ h => h, fun _ _ _ _ h => h, fun _ _ _ _ h => h, fun _ _ _ _ h => h, fun _ _ _ _ h => h, fun _ _ _ _ h => h, fun _ _ _ _ h => h, fun _ _ _ _ h => h, fun _ _ _ _ h => h, fun _ _ _ _ h => h, trivial⟩ (od rfl) (od rfl) e_61 rfl fun a w u_62 hS hM => ?_
                  have hS : St _ F0 [Item.sl (α := Vector Int 2) 54 u_62 z_60] _ w0 _ _ := hS
                  refine s_c hS (sg (sp_assign (od rfl))) rfl fun a w hS hM => ?_
                  refine l_end ?_
                  refine exit_block ?_
                  refine exit_then ?_
                  refine st_reg mixed (by kernel_rfl) hS ?_
                  refine sc (sg (sp_add (od rfl) (odi))) ?_
                  refine sc (sg (sp_move (od rfl))) ?_
                  refine sn fun a w hS => ?_
                  cases h
                  exact ⟨k_50, _, _, u_62, rfl, hF_50, hS.weak ⟨od rfl, od rfl, od rfl, od rfl, od rfl, od rfl, od rfl, od rfl, od rfl, od rfl, od rfl, od rfl, od rfl, od rfl, od rfl, od rfl, od rfl, od (congrArg (fun z => some (isV (α := Int) z)) hw_50), trivial⟩⟩
                · refine wp_exit ?_
                  obtain rfl := (fors_done hF_50 hb).symm
                  have h := hr_52
                  refine exit_thenE ?_
                  refine exit_thenE ?_
                  refine exit_here ?_
                  refine exit_block ?_
                  refine exit_then ?_
                  refine st_reg mixed (by kernel_rfl) hS ?_
                  refine sc (sg (sp_add (od rfl) (odi))) ?_
                  refine sc (sg (sp_move (od rfl))) ?_
                  refine sn fun a w hS => ?_
                  cases h
                  exact ⟨k_35, _, _, u_53, rfl, hF_35, hS.weak ⟨od rfl, od rfl, od rfl, od rfl, od rfl, od rfl, od rfl, od rfl, od rfl, od rfl, od rfl, od rfl, od rfl, od rfl, od (congrArg (fun z => some (isV (α := Int) z)) hw_35), trivial⟩⟩
            · refine wp_exit ?_
              obtain rfl := (fors_done hF_35 hb).symm
              have h := hr_37
              refine exit_thenE ?_
              refine exit_thenE ?_
              refine exit_here ?_
              refine exit_block ?_
              refine exit_then ?_
              refine st_reg mixed (by kernel_rfl) hS ?_
              refine sc (sg (sp_add (od rfl) (odi))) ?_
              refine sc (sg (sp_move (od rfl))) ?_
              refine sn fun a w hS => ?_
              cases h
              exact ⟨k_26, _, _, u_38, rfl, hF_26, hS.weak ⟨od rfl, od rfl, od rfl, od rfl, od rfl, od rfl, od rfl, od rfl, od rfl, od rfl, od rfl, od (congrArg (fun z => some (isV (α := Int) z)) hw_26), trivial⟩⟩
          · refine wp_exit ?_
            obtain rfl := (fors_done hF_26 hb).symm
            have h := hr_28
            refine exit_thenE ?_
            refine exit_thenE ?_
            refine exit_here ?_
            refine exit_then ?_
            refine wp_seq ?_
            refine wp_seq ?_
            refine st_reg mixed (by kernel_rfl) hS ?_
            refine sc (sg (sp_move (od rfl))) ?_
            refine sc (sg (sp_len Try.underlying48 (od rfl))) ?_
            refine sc (sg (sp_move (odi))) ?_
            refine sn fun a w hS => ?_
            refine exit_then ?_
            refine wp_block ?_
            have hS := st_freeze 0 10 hS rfl rfl
            obtain ⟨o_66, e_67, hr_68⟩ := bind_some h
            refine c_loop (fun K a w => ∃ k i_63 s_65, K = k + 1 ∧ ForI _ _ _ o_66 k i_63 s_65 ∧ St 176 F0 [] [(1, isV (α := Int) p1), (5, isV (α := List (List (Vector Int 2))) v_5.1), (7, isV (α := List S_api_Offer) v_13), (8, isV (α := Int) i_15), (9, isV (α := List (Vector Int 2)) v_21), (10, isV (α := List (Vector Int 2)) s_25), (63, isV (α := List (List (Vector Int 2))) v_5.1), (64, isV (α := Int) (v_5.1.length : Int)), (65, isV (α := Int) i_15), (121, isV (α := List (Vector Int 2)) v_21), (122, isV (α := Int) (v_21.length : Int)), (123, isV (α := Int) i_63)] w0 a w) ?_ ?_ ⟨_, _, _, rfl, for_init e_67, hS.weak ⟨od rfl, od rfl, od rfl, od rfl, od rfl, od rfl, od rfl, od rfl, od rfl, od rfl, od rfl, od rfl, trivial⟩⟩
            · rintro a w ⟨_, _, _, hk, _⟩; cases hk
            rintro K a w ⟨k_66, i_63, s_65, hk, hF_66, hS⟩
            obtain rfl := Nat.succ.inj hk
            refine wp_seq ?_
            refine st_reg mixed (by kernel_rfl) hS ?_
            refine sc (sg (sp_lss (od rfl) (od rfl))) ?_
            refine sn fun a w hS => ?_
            refine exit_then ?_
            refine wp_seq ?_
            refine st_cond hS rfl (fun hb => ?_) (fun hb => ?_)
            · refine wp_skip ?_
              refine exit_then ?_
              obtain ⟨k_66, o, rfl, h, hN_66, hL_66, hw_66⟩ := for_more hF_66 hb
              refine wp_seq ?_
              refine wp_block ?_
              refine wp_seq ?_
              obtain ⟨v_69, e_70, h⟩ := bind_some h
              refine l_start ?_
              refine s_c hS (sg (sp_move (od rfl))) rfl fun a w hS hM => ?_
              refine s_c hS (sg (sp_indexAddr sl48 (od rfl) (od rfl) e_70)) rfl fun a w hS hM => ?_
              refine s_c hS (sg (sp_load ty54 (od rfl))) rfl fun a w hS hM => ?_
              refine s_alloc zi54 hS rfl fun a w b_71 hS hM => ?_
              have hS : St _ F0 [Item.box (α := Vector Int 2) 54 b_71 (#v[0, 0] : Vector Int 2)] _ w0 _ _ := hS
              refine s_c hS (sg (sp_assign (od rfl))) rfl fun a w hS hM => ?_
              refine s_storeB (k := 0) (Δ := [(1, isV (α := Int) p1), (5, isV (α := List (List (Vector Int 2))) v_5.1), (7, isV (α := List S_api_Offer) v_13), (8, isV (α := Int) i_15), (9, isV (α := List (Vector Int 2)) v_21), (10, isV (α := List (Vector Int 2)) s_25), (17, isV (α := Int) i_63), (18, Pr.ptr b_71), (63, isV (α := List (List (Vector Int 2))) v_5.1), (64, isV (α := Int) (v_5.1.length : Int)), (65, isV (α := Int) i_15), (121, isV (α := List (Vector Int 2)) v_21), (122, isV (α := Int) (v_21.length : Int)), (123, isV (α := Int) i_63), (127, isV (α := Vector Int 2) v_69)]) ty54 hS rfl ⟨od rfl, od rfl, od rfl, od rfl, od rfl, od rfl, od rfl, od rfl, od rfl, od rfl, od rfl, od rfl, od rfl, od rfl, od rfl, trivial⟩ ⟨fun _ _ _ _ h => h, fun _ _ _ _ h => h, fun _ _ _ _ h => h, fun _ _ _ _ h => h, fun _ _ _ _ h => h, fun _ _ _ _ h => h, fun _ _ _ _ h => h, fun _ _ _ _ h => h, fun _ _ _ _ h => h, fun _ _ _ _ h => h, fun _ _ _ _ h => h, fun _ _ _ _ h => h, fun _ _ _ _ h => h, fun _ _ _ _ h => h, fun _ _ _ _ h => h, trivial⟩ rfl (od rfl) fun w hS hM => ?_
              have hS : St _ F0 [Item.box (α := Vector Int 2) 54 b_71 v_69] _ w0 _ _ := hS
              have hS := st_freezeB 0 18 hS rfl rfl
              refine l_end ?_
              refine exit_then ?_
              refine wp_seq ?_
              obtain ⟨v_72, e_73, h⟩ := bind_some h
              obtain ⟨v_74, e_75, h⟩ := bind_some h
              obtain ⟨v_76, e_77, h⟩ := bind_some h
              obtain ⟨v_78, e_79, h⟩ := bind_some h
              obtain ⟨v_80, e_81, h⟩ := bind_some h
              obtain ⟨v_82, e_83, h⟩ := bind_some h
              obtain ⟨v_84, e_85, h⟩ := bind_some h
              refine st_reg mixed (by kernel_rfl) hS ?_
              refine sc (sg (sp_move (od rfl))) ?_
              refine sc (sg (sp_gtr (od rfl) (odi))) ?_
              refine sc (sg (sp_move (od rfl))) ?_
              refine sc (sgT rfl fun hG => sp_move (od rfl)) ?_
              refine sc (sgT rfl fun hG => sp_move (od rfl)) ?_
              refine sc (sgT rfl fun hG => sp_sub (odw rfl hG) (odi)) ?_
              refine sc (sgT rfl fun hG => sp_indexAddr sl48 (odw rfl hG) (odw rfl hG) (guard_some e_73 hG)) ?_
              refine sc (sgT rfl fun hG => sp_indexAddrA ar54 (odw rfl hG) (odi) (guard_some e_75 hG)) ?_
              refine sc (sgT rfl fun hG => sp_load ty3 (odw rfl hG)) ?_
              refine sc (sgT rfl fun hG => sp_indexAddrA ar54 (od rfl) (odi) (guard_some e_77 hG)) ?_
              refine sc (sgT rfl fun hG => sp_load ty3 (odw rfl hG)) ?_
              refine sc (sgT rfl fun hG => sp_geq (odw rfl hG) (odw rfl hG)) ?_
              refine sc (sgT rfl fun hG => sp_move (odw rfl hG)) ?_
              refine sc (sgwF rfl fun hG => sp_move (od rfl)) ?_
              refine sc (sgwF rfl fun hG => sp_move (od rfl)) ?_
              refine sc (sgwF rfl fun hG => sp_sub (odw rfl hG) (odi)) ?_
              refine sc (sgwF rfl fun hG => sp_indexAddr sl48 (odw rfl hG) (odw rfl hG) (guard_some e_79 hG)) ?_
              refine sc (sgwF rfl fun hG => sp_indexAddrA ar54 (odw rfl hG) (odi) (guard_some e_81 hG)) ?_
              refine sc (sgwF rfl fun hG => sp_load ty3 (odw rfl hG)) ?_
              refine sc (sgwF rfl fun hG => sp_indexAddrA ar54 (od rfl) (odi) (guard_some e_83 hG)) ?_
              refine sc (sgwF rfl fun hG => sp_load ty3 (odw rfl hG)) ?_
              refine sc (sgwF rfl fun hG => sp_leq (odw rfl hG) (odw rfl hG)) ?_
              refine sc (sgT rfl fun hG => sp_pickOr (odw rfl hG) fun hg => odw rfl (and_mk hG (not_t hg))) ?_
              refine sc (sg (sp_pickAnd (od rfl) fun hg => odw rfl hg)) ?_
              refine sc (sg (sp_move (od rfl))) ?_
              refine sc (sgF rfl fun hG => sp_move (od rfl)) ?_
              refine sc (sgF rfl fun hG => sp_move (od rfl)) ?_
              refine sc (sgF rfl fun hG => sp_neq (odw rfl hG) (odw rfl hG)) ?_
              refine sc (sgF rfl fun hG => sp_move (odw rfl hG)) ?_
              refine sc (sgwT rfl fun hG => sp_move (od rfl)) ?_
              refine sc (sgwT rfl fun hG => sp_load ty54 (od rfl)) ?_
              refine sc (sgwT rfl fun hG => sp_call en47 (f47_ok (guard_some e_85 hG)) ⟨odw rfl hG, odw rfl hG, trivial⟩) ?_
              refine sc (sgwT rfl fun hG => sp_not (odw rfl hG)) ?_
              refine sc (sgF rfl fun hG => sp_pickAnd (odw rfl hG) fun hg => odw rfl (and_mk hG hg)) ?_
              refine sc (sg (sp_pickOr (od rfl) fun hg => odw rfl (not_t hg))) ?_
              refine sn fun a w hS => ?_
              refine exit_then ?_
              refine st_cond hS rfl (fun hb => ?_) (fun hb => ?_)
              · have h := ite_t hb h
                refine wp_seq ?_
                refine st_reg mixed (by kernel_rfl) hS ?_
                refine sc (sg (sp_assign (odb))) ?_
                refine sn fun a w hS => ?_
                refine exit_then ?_
                refine wp_ret ?_
                refine exit_blockR ?_
                refine exit_thenR ?_
                cases h
                obtain rfl := hL_66 _ rfl
                have h := (elim_leave hr_68)
                refine exit_thenR ?_
                refine exit_blockR ?_
                refine exit_thenR ?_
                refine exit_blockR ?_
                refine exit_thenR ?_
                cases h
                obtain rfl := hL_18 _ rfl
                have h := (elim_leave hr_20)
                refine exit_thenR ?_
                refine exit_blockR ?_
                refine exit_thenR ?_
                cases h
                exact st_ret hS (run_results1 Try.results8 a w) (hS.get rfl)
              · have h := ite_f hb h
                refine wp_skip ?_
                refine exit_block ?_
                refine exit_then ?_
                refine st_reg mixed (by kernel_rfl) hS ?_
                refine sc (sg (sp_add (od rfl) (odi))) ?_
                refine sc (sg (sp_move (od rfl))) ?_
                refine sn fun a w hS => ?_
                cases h
                exact ⟨k_66, _, _, rfl, hN_66 _ rfl, hS.weak ⟨od rfl, od rfl, od rfl, od rfl, od rfl, od rfl, od rfl, od rfl, od rfl, od rfl, od rfl, od (congrArg (fun z => some (isV (α := Int) z)) hw_66), trivial⟩⟩
            · refine wp_exit ?_
              obtain rfl := for_done hF_66 hb
              have h := elim_again hr_68
              refine exit_thenE ?_
              refine exit_thenE ?_
              refine exit_here ?_
              refine exit_then ?_
              refine wp_seq ?_
              refine st_reg mixed (by kernel_rfl) hS ?_
              refine sc (sg (sp_move (od rfl))) ?_
              refine sc (sg (sp_len Try.underlying48 (od rfl))) ?_
              refine sc (sg (sp_move (odi))) ?_
              refine sn fun a w hS => ?_
              refine exit_then ?_
              refine wp_block ?_
              obtain ⟨o_89, e_90, hr_91⟩ := bind_some h
              refine c_loop (fun K a w => ∃ k i_86 s_88, K = k + 1 ∧ ForI _ _ _ o_89 k i_86 s_88 ∧ St 176 F0 [] [(1, isV (α := Int) p1), (5, isV (α := List (List (Vector Int 2))) v_5.1), (7, isV (α := List S_api_Offer) v_13), (9, isV (α := List (Vector Int 2)) v_21), (63, isV (α := List (List (Vector Int 2))) v_5.1), (64, isV (α := Int) (v_5.1.length : Int)), (65, isV (α := Int) i_15), (164, isV (α := List (Vector Int 2)) s_25), (165, isV (α := Int) (s_25.length : Int)), (166, isV (α := Int) i_86)] w0 a w) ?_ ?_ ⟨_, _, _, rfl, for_init e_90, hS.weak ⟨od rfl, od rfl, od rfl, od rfl, od rfl, od rfl, od rfl, od rfl, od rfl, od rfl, trivial⟩⟩
              · rintro a w ⟨_, _, _, hk, _⟩; cases hk
              rintro K a w ⟨k_89, i_86, s_88, hk, hF_89, hS⟩
              obtain rfl := Nat.succ.inj hk
              refine wp_seq ?_
              refine st_reg mixed (by kernel_rfl) hS ?_
              refine sc (sg (sp_lss (od rfl) (od rfl))) ?_
              refine sn fun a w hS => ?_
              refine exit_then ?_
              refine wp_seq ?_
              refine st_cond hS rfl (fun hb => ?_) (fun hb => ?_)
              · refine wp_skip ?_
                refine exit_then ?_
                obtain ⟨k_89, o, rfl, h, hN_89, hL_89, hw_89⟩ := for_more hF_89 hb
                refine wp_seq ?_
                refine wp_block ?_
                refine wp_seq ?_
                obtain ⟨v_92, e_93, h⟩ := bind_some h
                refine l_start ?_
                refine s_c hS (sg (sp_indexAddr sl48 (od rfl) (od rfl) e_93)) rfl fun a w hS hM => ?_
                refine s_c hS (sg (sp_load ty54 (od rfl))) rfl fun a w hS hM => ?_
                refine s_allocStore ze54 hS (od rfl) (fun k hk => by cases hk; rfl) rfl fun a w hS hM => ?_
                refine l_end ?_
                refine exit_then ?_
                refine wp_seq ?_
                obtain ⟨v_94, e_95, h⟩ := bind_some h
                refine st_reg mixed (by kernel_rfl) hS ?_
                refine sc (sg (sp_move (od rfl))) ?_
                refine sc (sg (mk_fn55 (f := (fun x0 => M.f49 x0 v_92)) (κs := [isA (α := Vector Int 2) v_92]) ⟨fun _ _ _ _ h => h, trivial⟩ en49 ⟨od rfl, trivial⟩ (fun _ _ h => f49_ok h))) ?_
                refine sc (sg (sp_call en48 (f48_ok e_95) ⟨od rfl, od rfl, trivial⟩)) ?_
                refine sc (sg (sp_not (od rfl))) ?_
                refine sn fun a w hS => ?_
                refine exit_then ?_
                refine st_cond hS rfl (fun hb => ?_) (fun hb => ?_)
                · have h := ite_t hb h
                  refine wp_seq ?_
                  refine st_reg mixed (by kernel_rfl) hS ?_
                  refine sc (sg (sp_assign (odb))) ?_
                  refine sn fun a w hS => ?_
                  refine exit_then ?_
                  refine wp_ret ?_
                  refine exit_blockR ?_
                  refine exit_thenR ?_
                  cases h
                  obtain rfl := hL_89 _ rfl
                  have h := (elim_leave hr_91)
                  refine exit_thenR ?_
                  refine exit_blockR ?_
                  refine exit_blockR ?_
                  refine exit_thenR ?_
                  cases h
                  obtain rfl := hL_18 _ rfl
                  have h := (elim_leave hr_20)
                  refine exit_thenR ?_
                  refine exit_blockR ?_
                  refine exit_thenR ?_
                  cases h
                  exact st_ret hS (run_results1 Try.results8 a w) (hS.get rfl)
                · have h := ite_f hb h
                  refine wp_skip ?_
                  refine exit_block ?_
                  refine exit_then ?_
                  refine st_reg mixed (by kernel_rfl) hS ?_
                  refine sc (sg (sp_add (od rfl) (odi))) ?_
                  refine sc (sg (sp_move (od rfl))) ?_
                  refine sn fun a w hS => ?_
                  cases h
                  exact ⟨k_89, _, _, rfl, hN_89 _ rfl, hS.weak ⟨od rfl, od rfl, od rfl, od rfl, od rfl, od rfl, od rfl, od rfl, od rfl, od (congrArg (fun z => some (isV (α := Int) z)) hw_89), trivial⟩⟩
              · refine wp_exit ?_
                obtain rfl := for_done hF_89 hb
                have h := elim_again hr_91
                refine exit_thenE ?_
                refine exit_thenE ?_
                refine exit_here ?_
                refine exit_block ?_
                refine exit_then ?_
                refine st_reg mixed (by kernel_rfl) hS ?_
                refine sc (sg (sp_add (od rfl) (odi))) ?_
                refine sc (sg (sp_move (od rfl))) ?_
                refine sn fun a w hS => ?_
                cases h
                exact ⟨k_18, _, _, rfl, hN_18 _ rfl, hS.weak ⟨od rfl, od rfl, od rfl, od rfl, od rfl, od (congrArg (fun z => some (isV (α := Int) z)) hw_18), trivial⟩⟩
        · refine wp_exit ?_
          obtain rfl := for_done hF_18 hb
          have h := elim_again hr_20
          refine exit_thenE ?_
          refine exit_thenE ?_
          refine exit_here ?_
          refine exit_then ?_
          refine wp_seq ?_
          refine st_reg mixed (by kernel_rfl) hS ?_
          refine sc (sg (sp_assign (odb))) ?_
          refine sn fun a w hS => ?_
          refine exit_then ?_
          refine wp_ret ?_
          cases h
          exact st_ret hS (run_results1 Try.results8 a w) (hS.get rfl)

end Go.Proofs.Ytkbilbeaedocjaa
