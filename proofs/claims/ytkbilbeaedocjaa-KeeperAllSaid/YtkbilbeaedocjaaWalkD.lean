/-
  What is proved: each Go function named here returns what its model tells, and changes nothing that was there; where the model tells something.
-/
import Derived.Test.YtkbilbeaedocjaaWalkC
import Derived.Test.YtkbilbeaedocjaaModelD
set_option linter.unusedVariables false
set_option maxRecDepth 100000
namespace Go.Proofs.Ytkbilbeaedocjaa
open Go Go.RowKit Go.Proofs.Ytkbilbeaedocjaa.Wh

theorem f119_ok {fuel : Nat} {p0 : S_api_Market} {p1 : List Int} {p2 : List Int} {r : Bool} (h : M.f119 fuel p0 p1 p2 = some r) : CallOK Try.prog 119 [isV p0, isV p1, isV p2] (isV r) := by
  unfold M.f119 at h
  refine callS_of Try.func119 rfl Try.ntmps119 rfl fun F0 w0 a hS => ?_
  refine wp_seq ?_
  refine st_reg mixed (by kernel_rfl) hS ?_
  refine sc (sg (sp_box (od rfl))) ?_
  refine sc (sg (sp_assign (odb))) ?_
  refine sn fun a w hS => ?_
  refine exit_then ?_
  refine wp_seq ?_
  refine wp_seq ?_
  obtain ⟨v_1, e_2, h⟩ := bind_some h
  obtain ⟨v_3, e_4, h⟩ := bind_some h
  refine st_reg mixed (by kernel_rfl) hS ?_
  refine sc (sg (sp_load ty24 (od rfl))) ?_
  refine sc (sg (sp_move (od rfl))) ?_
  refine sc (sg (sp_call en81 (f81_ok e_2) ⟨od rfl, od rfl, trivial⟩)) ?_
  refine sc (sg (sp_load ty24 (od rfl))) ?_
  refine sc (sg (sp_move (od rfl))) ?_
  refine sc (sg (sp_call en81 (f81_ok e_4) ⟨od rfl, od rfl, trivial⟩)) ?_
  refine sc (sg (sp_assign (od rfl))) ?_
  refine sc (sg (sp_assign (od rfl))) ?_
  refine sn fun a w hS => ?_
  refine exit_then ?_
  refine wp_seq ?_
  refine st_reg mixed (by kernel_rfl) hS ?_
  refine sc (sg (sp_move (od rfl))) ?_
  refine sc (sg (sp_move (od rfl))) ?_
  refine sc (sg (sp_neq (od rfl) (od rfl))) ?_
  refine sn fun a w hS => ?_
  refine exit_then ?_
  refine st_cond hS rfl (fun hb => ?_) (fun hb => ?_)
  · have h := ite_t hb h
    refine wp_seq ?_
    refine st_reg mixed (by kernel_rfl) hS ?_
    refine sc (sg (sp_move (od rfl))) ?_
    refine sc (sg (sp_move (od rfl))) ?_
    refine sc (sg (sp_lss (od rfl) (od rfl))) ?_
    refine sc (sg (sp_assign (od rfl))) ?_
    refine sn fun a w hS => ?_
    refine exit_then ?_
    refine wp_ret ?_
    refine exit_thenR ?_
    cases h
    exact st_ret hS (run_results1 Try.results119 a w) (hS.get rfl)
  · have h := ite_f hb h
    refine wp_skip ?_
    refine exit_then ?_
    refine wp_seq ?_
    refine wp_seq ?_
    refine st_reg mixed (by kernel_rfl) hS ?_
    refine sc (sg (sp_move (od rfl))) ?_
    refine sc (sg (sp_len Try.underlying27 (od rfl))) ?_
    refine sc (sg (sp_move (od rfl))) ?_
    refine sc (sg (sp_len Try.underlying27 (od rfl))) ?_
    refine sc (sg (sp_neq (od rfl) (od rfl))) ?_
    refine sn fun a w hS => ?_
    refine exit_then ?_
    refine st_cond hS rfl (fun hb => ?_) (fun hb => ?_)
    · have h := ite_t hb h
      refine wp_seq ?_
      refine st_reg mixed (by kernel_rfl) hS ?_
      refine sc (sg (sp_move (od rfl))) ?_
      refine sc (sg (sp_len Try.underlying27 (od rfl))) ?_
      refine sc (sg (sp_move (od rfl))) ?_
      refine sc (sg (sp_len Try.underlying27 (od rfl))) ?_
      refine sc (sg (sp_lss (od rfl) (od rfl))) ?_
      refine sc (sg (sp_assign (od rfl))) ?_
      refine sn fun a w hS => ?_
      refine exit_then ?_
      refine wp_ret ?_
      refine exit_thenR ?_
      cases h
      exact st_ret hS (run_results1 Try.results119 a w) (hS.get rfl)
    · have h := ite_f hb h
      refine wp_skip ?_
      refine exit_then ?_
      refine wp_seq ?_
      refine wp_seq ?_
      refine st_reg mixed (by kernel_rfl) hS ?_
      refine sc (sg (sp_assign (odi))) ?_
      refine sn fun a w hS => ?_
      refine exit_then ?_
      refine wp_block ?_
      obtain ⟨o_6, e_7, hr_8⟩ := bind_some h
      refine c_loop (fun K a w => ∃ s_5 : Int, loopM _ K s_5 = some o_6 ∧ St 56 F0 [] [(1, isV (α := List Int) p1), (2, isV (α := List Int) p2), (9, isV (α := Int) s_5)] w0 a w) ?_ ?_ ⟨_, e_7, hS.weak ⟨od rfl, od rfl, od rfl, trivial⟩⟩
      · rintro a w ⟨_, hk, _⟩; cases hk
      rintro K a w ⟨s_5, hF_6, hS⟩
      obtain ⟨o, h, hN_6, hL_6⟩ := loop_more hF_6
      refine wp_seq ?_
      refine wp_seq ?_
      refine st_reg mixed (by kernel_rfl) hS ?_
      refine sc (sg (sp_move (od rfl))) ?_
      refine sc (sg (sp_move (od rfl))) ?_
      refine sc (sg (sp_len Try.underlying27 (od rfl))) ?_
      refine sc (sg (sp_lss (od rfl) (od rfl))) ?_
      refine sn fun a w hS => ?_
      refine exit_then ?_
      refine st_cond hS rfl (fun hb => ?_) (fun hb => ?_)
      · have h := ite_t hb h
        refine wp_skip ?_
        refine exit_then ?_
        refine wp_seq ?_
        refine wp_block ?_
        refine wp_seq ?_
        obtain ⟨v_9, e_10, h⟩ := bind_some h
        obtain ⟨v_11, e_12, h⟩ := bind_some h
        refine st_reg mixed (by kernel_rfl) hS ?_
        refine sc (sg (sp_move (od rfl))) ?_
        refine sc (sg (sp_move (od rfl))) ?_
        refine sc (sg (sp_indexAddr sl27 (od rfl) (od rfl) e_10)) ?_
        refine sc (sg (sp_load ty3 (od rfl))) ?_
        refine sc (sg (sp_move (od rfl))) ?_
        refine sc (sg (sp_move (od rfl))) ?_
        refine sc (sg (sp_indexAddr sl27 (od rfl) (od rfl) e_12)) ?_
        refine sc (sg (sp_load ty3 (od rfl))) ?_
        refine sc (sg (sp_neq (od rfl) (od rfl))) ?_
        refine sn fun a w hS => ?_
        refine exit_then ?_
        refine st_cond hS rfl (fun hb => ?_) (fun hb => ?_)
        · have h := ite_t hb h
          refine wp_seq ?_
          obtain ⟨v_13, e_14, h⟩ := bind_some h
          obtain ⟨v_15, e_16, h⟩ := bind_some h
          refine st_reg mixed (by kernel_rfl) hS ?_
          refine sc (sg (sp_move (od rfl))) ?_
          refine sc (sg (sp_move (od rfl))) ?_
          refine sc (sg (sp_indexAddr sl27 (od rfl) (od rfl) e_14)) ?_
          refine sc (sg (sp_load ty3 (od rfl))) ?_
          refine sc (sg (sp_move (od rfl))) ?_
          refine sc (sg (sp_move (od rfl))) ?_
          refine sc (sg (sp_indexAddr sl27 (od rfl) (od rfl) e_16)) ?_
          refine sc (sg (sp_load ty3 (od rfl))) ?_
          refine sc (sg (sp_lss (od rfl) (od rfl))) ?_
          refine sc (sg (sp_assign (od rfl))) ?_
          refine sn fun a w hS => ?_
          refine exit_then ?_
          refine wp_ret ?_
          refine exit_blockR ?_
          refine exit_thenR ?_
          cases h
          obtain rfl := hL_6 _ rfl
          have h := (sum_inr hr_8)
          refine exit_thenR ?_
          refine exit_blockR ?_
          refine exit_thenR ?_
          cases h
          exact st_ret hS (run_results1 Try.results119 a w) (hS.get rfl)
        · have h := ite_f hb h
          refine wp_skip ?_
          refine exit_block ?_
          refine exit_then ?_
          refine st_reg mixed (by kernel_rfl) hS ?_
          refine sc (sg (sp_move (od rfl))) ?_
          refine sc (sg (sp_add (od rfl) (odi))) ?_
          refine sc (sg (sp_assign (od rfl))) ?_
          refine sn fun a w hS => ?_
          cases h
          exact ⟨_, hN_6 _ rfl, hS.weak ⟨od rfl, od rfl, od rfl, trivial⟩⟩
      · have h := ite_f hb h
        refine wp_exit ?_
        refine exit_thenE ?_
        cases h
        obtain rfl := hL_6 _ rfl
        have h := (sum_inl hr_8)
        refine exit_thenE ?_
        refine exit_here ?_
        refine exit_then ?_
        refine wp_seq ?_
        refine st_reg mixed (by kernel_rfl) hS ?_
        refine sc (sg (sp_assign (odb))) ?_
        refine sn fun a w hS => ?_
        refine exit_then ?_
        refine wp_ret ?_
        cases h
        exact st_ret hS (run_results1 Try.results119 a w) (hS.get rfl)

theorem f86_ok {fuel : Nat} {p0 : S_api_Market} {p1 : Int} {p2 : Int} {p3 : Int} {r : (List Int) × Bool} (h : M.f86 fuel p0 p1 p2 p3 = some r) : CallOK Try.prog 86 [isV p0, isV p1, isV p2, isV p3] (isTup [isV r.1, isV r.2]) := by
  unfold M.f86 at h
  refine callS_of Try.func86 rfl Try.ntmps86 rfl fun F0 w0 a hS => ?_
  refine wp_seq ?_
  refine st_reg mixed (by kernel_rfl) hS ?_
  refine sc (sg (sp_box (od rfl))) ?_
  refine sc (sg (sp_assign (odnil (α := Int)))) ?_
  refine sc (sg (sp_assign (odb))) ?_
  refine sn fun a w hS => ?_
  refine exit_then ?_
  refine wp_seq ?_
  refine st_reg mixed (by kernel_rfl) hS ?_
  refine sc (sg (sp_assign (odnil (α := Int)))) ?_
  refine sn fun a w hS => ?_
  refine exit_then ?_
  refine wp_seq ?_
  refine st_reg mixed (by kernel_rfl) hS ?_
  refine sc (sg (sp_assign (odb))) ?_
  refine sn fun a w hS => ?_
  refine exit_then ?_
  refine wp_seq ?_
  refine wp_seq ?_
  refine st_reg mixed (by kernel_rfl) hS ?_
  refine sc (sg (sp_assign (odi))) ?_
  refine sn fun a w hS => ?_
  refine exit_then ?_
  refine wp_block ?_
  obtain ⟨o_2, e_3, hr_4⟩ := bind_some h
  refine c_loop (fun K a w => ∃ s_1 : (List Int) × Bool × Int, loopM _ K s_1 = some o_2 ∧ St 44 F0 [] [(1, isV (α := Int) p1), (2, isV (α := Int) p2), (3, isV (α := Int) p3), (4, isA (α := S_api_Market) p0), (10, isV (α := List Int) s_1.1), (11, isV (α := Bool) s_1.2.1), (12, isV (α := Int) s_1.2.2)] w0 a w) ?_ ?_ ⟨_, e_3, hS.weak ⟨od rfl, od rfl, od rfl, od rfl, od rfl, od rfl, od rfl, trivial⟩⟩
  · rintro a w ⟨_, hk, _⟩; cases hk
  rintro K a w ⟨s_1, hF_2, hS⟩
  obtain ⟨o, h, hN_2, hL_2⟩ := loop_more hF_2
  refine wp_seq ?_
  refine wp_seq ?_
  obtain ⟨v_5, e_6, h⟩ := bind_some h
  refine st_reg mixed (by kernel_rfl) hS ?_
  refine sc (sg (sp_move (od rfl))) ?_
  refine sc (sg (sp_fieldAddr fd24_2 (od rfl))) ?_
  refine sc (sg (sp_load ty22 (od rfl))) ?_
  refine sc (sg (sp_len Try.underlying22 (od rfl))) ?_
  refine sc (sg (sp_shl (odi) (od rfl) e_6)) ?_
  refine sc (sg (sp_lss (od rfl) (od rfl))) ?_
  refine sn fun a w hS => ?_
  refine exit_then ?_
  refine st_cond hS rfl (fun hb => ?_) (fun hb => ?_)
  · have h := ite_t hb h
    refine wp_skip ?_
    refine exit_then ?_
    refine wp_seq ?_
    refine wp_block ?_
    refine wp_seq ?_
    obtain ⟨v_7, e_8, h⟩ := bind_some h
    refine st_reg mixed (by kernel_rfl) hS ?_
    refine sc (sg (sp_load ty24 (od rfl))) ?_
    refine sc (sg (sp_move (od rfl))) ?_
    refine sc (sg (sp_call en74 (f74_ok e_8) ⟨od rfl, od rfl, trivial⟩)) ?_
    refine sc (sg (sp_assign (od rfl))) ?_
    refine sn fun a w hS => ?_
    refine exit_then ?_
    refine wp_seq ?_
    obtain ⟨v_9, e_10, h⟩ := bind_some h
    obtain ⟨v_11, e_12, h⟩ := bind_some h
    refine st_reg mixed (by kernel_rfl) hS ?_
    refine sc (sg (sp_move (od rfl))) ?_
    refine sc (sg (sp_not (od rfl))) ?_
    refine sc (sg (sp_move (od rfl))) ?_
    refine sc (sgF rfl fun hG => sp_load ty24 (od rfl)) ?_
    refine sc (sgF rfl fun hG => sp_move (od rfl)) ?_
    refine sc (sgF rfl fun hG => sp_move (od rfl)) ?_
    refine sc (sgF rfl fun hG => sp_call en119 (f119_ok (guard_some e_10 hG)) ⟨odw rfl hG, odw rfl hG, odw rfl hG, trivial⟩) ?_
    refine sc (sg (sp_pickOr (od rfl) fun hg => odw rfl (not_t hg))) ?_
    refine sc (sg (sp_move (od rfl))) ?_
    refine sc (sgT rfl fun hG => sp_load ty24 (od rfl)) ?_
    refine sc (sgT rfl fun hG => sp_move (od rfl)) ?_
    refine sc (sgT rfl fun hG => sp_move (od rfl)) ?_
    refine sc (sgT rfl fun hG => sp_move (od rfl)) ?_
    refine sc (sgT rfl fun hG => sp_move (od rfl)) ?_
    refine sc (sgT rfl fun hG => sp_call en73 (f73_ok (guard_some e_12 hG)) ⟨odw rfl hG, odw rfl hG, odw rfl hG, odw rfl hG, odw rfl hG, trivial⟩) ?_
    refine sc (sg (sp_pickAnd (od rfl) fun hg => odw rfl hg)) ?_
    refine sn fun a w hS => ?_
    refine exit_then ?_
    obtain ⟨⟨y_14, y_15⟩, hj_13, h⟩ := bind_some h
    refine wp_mono (Q := fun e a w => e = Exit.normal ∧ St 44 F0 [] [(1, isV (α := Int) p1), (2, isV (α := Int) p2), (3, isV (α := Int) p3), (4, isA (α := S_api_Market) p0), (10, isV (α := List Int) y_14), (11, isV (α := Bool) y_15), (12, isV (α := Int) s_1.2.2)] w0 a w) ?_ ?_
    · refine st_cond hS rfl (fun hb => ?_) (fun hb => ?_)
      · have h := ite_t hb hj_13
        refine wp_seq ?_
        refine st_reg mixed (by kernel_rfl) hS ?_
        refine sc (sg (sp_move (od rfl))) ?_
        refine sc (sg (sp_assign (od rfl))) ?_
        refine sn fun a w hS => ?_
        refine exit_then ?_
        refine st_reg mixed (by kernel_rfl) hS ?_
        refine sc (sg (sp_assign (odb))) ?_
        refine sn fun a w hS => ?_
        cases h
        exact ⟨rfl, hS.weak ⟨od rfl, od rfl, od rfl, od rfl, od rfl, od rfl, od rfl, trivial⟩⟩
      · have h := ite_f hb hj_13
        refine wp_skip ?_
        cases h
        exact ⟨rfl, hS.weak ⟨od rfl, od rfl, od rfl, od rfl, od rfl, od rfl, od rfl, trivial⟩⟩
    rintro e a w ⟨rfl, hS⟩
    refine exit_block ?_
    refine exit_then ?_
    refine st_reg mixed (by kernel_rfl) hS ?_
    refine sc (sg (sp_move (od rfl))) ?_
    refine sc (sg (sp_add (od rfl) (odi))) ?_
    refine sc (sg (sp_assign (od rfl))) ?_
    refine sn fun a w hS => ?_
    cases h
    exact ⟨_, hN_2 _ rfl, hS.weak ⟨od rfl, od rfl, od rfl, od rfl, od rfl, od rfl, od rfl, trivial⟩⟩
  · have h := ite_f hb h
    refine wp_exit ?_
    refine exit_thenE ?_
    cases h
    obtain rfl := hL_2 _ rfl
    have h := hr_4
    refine exit_thenE ?_
    refine exit_here ?_
    refine exit_then ?_
    refine wp_seq ?_
    refine st_reg mixed (by kernel_rfl) hS ?_
    refine sc (sg (sp_move (od rfl))) ?_
    refine sc (sg (sp_move (od rfl))) ?_
    refine sc (sg (sp_assign (od rfl))) ?_
    refine sc (sg (sp_assign (od rfl))) ?_
    refine sn fun a w hS => ?_
    refine exit_then ?_
    refine wp_ret ?_
    cases h
    exact st_ret hS (run_results2 Try.results86 a w) (⟨_, rfl, hS.get rfl, hS.get rfl, trivial⟩)

theorem f26_ok {fuel : Nat} {p0 : S_api_Market} {p1 : Int} {p2 : Int} {p3 : Int} {r : (List Int) × Bool × Int} (h : M.f26 fuel p0 p1 p2 p3 = some r) : CallOK Try.prog 26 [isV p0, isV p1, isV p2, isV p3] (isTup [isV r.1, isV r.2.1, isV r.2.2]) := by
  unfold M.f26 at h
  refine callS_of Try.func26 rfl Try.ntmps26 rfl fun F0 w0 a hS => ?_
  refine wp_seq ?_
  refine st_reg mixed (by kernel_rfl) hS ?_
  refine sc (sg (sp_box (od rfl))) ?_
  refine sc (sg (sp_assign (odnil (α := Int)))) ?_
  refine sc (sg (sp_assign (odb))) ?_
  refine sc (sg (sp_assign (odi))) ?_
  refine sn fun a w hS => ?_
  refine exit_then ?_
  refine wp_seq ?_
  refine wp_seq ?_
  obtain ⟨v_1, e_2, h⟩ := bind_some h
  refine st_reg mixed (by kernel_rfl) hS ?_
  refine sc (sg (sp_load ty24 (od rfl))) ?_
  refine sc (sg (sp_move (od rfl))) ?_
  refine sc (sg (sp_move (od rfl))) ?_
  refine sc (sg (sp_move (od rfl))) ?_
  refine sc (sg (sp_buildSlice [.tmp 16, .tmp 17] ([p1, p2] : List Int) sl27 ze3 rfl rfl rfl rfl ⟨od rfl, od rfl, trivial⟩)) ?_
  refine sc (sg (sp_call en72 (f72_ok e_2) ⟨od rfl, odnil (α := Int), od rfl, od rfl, trivial⟩)) ?_
  refine sc (sg (sp_assign (od rfl))) ?_
  refine sn fun a w hS => ?_
  refine exit_then ?_
  refine wp_seq ?_
  refine st_reg mixed (by kernel_rfl) hS ?_
  refine sc (sg (sp_move (od rfl))) ?_
  refine sc (sg (sp_neq (od rfl) (odi))) ?_
  refine sn fun a w hS => ?_
  refine exit_then ?_
  refine st_cond hS rfl (fun hb => ?_) (fun hb => ?_)
  · have h := ite_t hb h
    refine wp_seq ?_
    refine st_reg mixed (by kernel_rfl) hS ?_
    refine sc (sg (sp_move (od rfl))) ?_
    refine sc (sg (sp_assign (odnil (α := Int)))) ?_
    refine sc (sg (sp_assign (odb))) ?_
    refine sc (sg (sp_assign (od rfl))) ?_
    refine sn fun a w hS => ?_
    refine exit_then ?_
    refine wp_ret ?_
    refine exit_thenR ?_
    cases h
    exact st_ret hS (run_results3 Try.results26 a w) (⟨_, rfl, hS.get rfl, hS.get rfl, hS.get rfl, trivial⟩)
  · have h := ite_f hb h
    refine wp_skip ?_
    refine exit_then ?_
    refine wp_seq ?_
    obtain ⟨v_3, e_4, h⟩ := bind_some h
    refine st_reg mixed (by kernel_rfl) hS ?_
    refine sc (sg (sp_load ty24 (od rfl))) ?_
    refine sc (sg (sp_move (od rfl))) ?_
    refine sc (sg (sp_move (od rfl))) ?_
    refine sc (sg (sp_move (od rfl))) ?_
    refine sc (sg (sp_call en86 (f86_ok e_4) ⟨od rfl, od rfl, od rfl, od rfl, trivial⟩)) ?_
    refine sc (sg (sp_move (od rfl))) ?_
    refine sc (sg (sp_extract (od rfl) rfl)) ?_
    refine sc (sg (sp_extract (od rfl) rfl)) ?_
    refine sc (sg (sp_assign (od rfl))) ?_
    refine sc (sg (sp_assign (od rfl))) ?_
    refine sn fun a w hS => ?_
    refine exit_then ?_
    refine wp_seq ?_
    refine st_reg mixed (by kernel_rfl) hS ?_
    refine sc (sg (sp_move (od rfl))) ?_
    refine sc (sg (sp_move (od rfl))) ?_
    refine sc (sg (sp_assign (od rfl))) ?_
    refine sc (sg (sp_assign (od rfl))) ?_
    refine sc (sg (sp_assign (odi))) ?_
    refine sn fun a w hS => ?_
    refine exit_then ?_
    refine wp_ret ?_
    cases h
    exact st_ret hS (run_results3 Try.results26 a w) (⟨_, rfl, hS.get rfl, hS.get rfl, hS.get rfl, trivial⟩)

theorem f28_ok {fuel : Nat} {p0 : S_api_Market} {p1 : Int} {r : (List Int) × Bool × Int} (h : M.f28 fuel p0 p1 = some r) : CallOK Try.prog 28 [isV p0, isV p1] (isTup [isV r.1, isV r.2.1, isV r.2.2]) := by
  unfold M.f28 at h
  refine callS_of Try.func28 rfl Try.ntmps28 rfl fun F0 w0 a hS => ?_
  refine wp_seq ?_
  refine st_reg mixed (by kernel_rfl) hS ?_
  refine sc (sg (sp_box (od rfl))) ?_
  refine sc (sg (sp_assign (odnil (α := Int)))) ?_
  refine sc (sg (sp_assign (odb))) ?_
  refine sc (sg (sp_assign (odi))) ?_
  refine sn fun a w hS => ?_
  refine exit_then ?_
  refine wp_seq ?_
  refine wp_seq ?_
  obtain ⟨v_1, e_2, h⟩ := bind_some h
  refine st_reg mixed (by kernel_rfl) hS ?_
  refine sc (sg (sp_load ty24 (od rfl))) ?_
  refine sc (sg (sp_move (od rfl))) ?_
  refine sc (sg (sp_call en72 (f72_ok e_2) ⟨od rfl, odnil (α := Int), od rfl, odnil (α := Int), trivial⟩)) ?_
  refine sc (sg (sp_assign (od rfl))) ?_
  refine sn fun a w hS => ?_
  refine exit_then ?_
  refine wp_seq ?_
  refine st_reg mixed (by kernel_rfl) hS ?_
  refine sc (sg (sp_move (od rfl))) ?_
  refine sc (sg (sp_neq (od rfl) (odi))) ?_
  refine sn fun a w hS => ?_
  refine exit_then ?_
  refine st_cond hS rfl (fun hb => ?_) (fun hb => ?_)
  · have h := ite_t hb h
    refine wp_seq ?_
    refine st_reg mixed (by kernel_rfl) hS ?_
    refine sc (sg (sp_move (od rfl))) ?_
    refine sc (sg (sp_assign (odnil (α := Int)))) ?_
    refine sc (sg (sp_assign (odb))) ?_
    refine sc (sg (sp_assign (od rfl))) ?_
    refine sn fun a w hS => ?_
    refine exit_then ?_
    refine wp_ret ?_
    refine exit_thenR ?_
    cases h
    exact st_ret hS (run_results3 Try.results28 a w) (⟨_, rfl, hS.get rfl, hS.get rfl, hS.get rfl, trivial⟩)
  · have h := ite_f hb h
    refine wp_skip ?_
    refine exit_then ?_
    refine wp_seq ?_
    obtain ⟨v_3, e_4, h⟩ := bind_some h
    refine st_reg mixed (by kernel_rfl) hS ?_
    refine sc (sg (sp_load ty24 (od rfl))) ?_
    refine sc (sg (sp_move (od rfl))) ?_
    refine sc (sg (sp_call en86 (f86_ok e_4) ⟨od rfl, odi, odi, od rfl, trivial⟩)) ?_
    refine sc (sg (sp_move (od rfl))) ?_
    refine sc (sg (sp_extract (od rfl) rfl)) ?_
    refine sc (sg (sp_extract (od rfl) rfl)) ?_
    refine sc (sg (sp_assign (od rfl))) ?_
    refine sc (sg (sp_assign (od rfl))) ?_
    refine sn fun a w hS => ?_
    refine exit_then ?_
    refine wp_seq ?_
    refine st_reg mixed (by kernel_rfl) hS ?_
    refine sc (sg (sp_move (od rfl))) ?_
    refine sc (sg (sp_move (od rfl))) ?_
    refine sc (sg (sp_assign (od rfl))) ?_
    refine sc (sg (sp_assign (od rfl))) ?_
    refine sc (sg (sp_assign (odi))) ?_
    refine sn fun a w hS => ?_
    refine exit_then ?_
    refine wp_ret ?_
    cases h
    exact st_ret hS (run_results3 Try.results28 a w) (⟨_, rfl, hS.get rfl, hS.get rfl, hS.get rfl, trivial⟩)

theorem f29_ok {p0 : S_api_Market} {r : (List Int) × Bool × Int} (h : M.f29 p0 = some r) : CallOK Try.prog 29 [isV p0] (isTup [isV r.1, isV r.2.1, isV r.2.2]) := by
  unfold M.f29 at h
  refine callS_of Try.func29 rfl Try.ntmps29 rfl fun F0 w0 a hS => ?_
  refine wp_seq ?_
  refine st_reg mixed (by kernel_rfl) hS ?_
  refine sc (sg (sp_box (od rfl))) ?_
  refine sc (sg (sp_assign (odnil (α := Int)))) ?_
  refine sc (sg (sp_assign (odb))) ?_
  refine sc (sg (sp_assign (odi))) ?_
  refine sn fun a w hS => ?_
  refine exit_then ?_
  refine wp_seq ?_
  refine wp_seq ?_
  obtain ⟨v_1, e_2, h⟩ := bind_some h
  refine st_reg mixed (by kernel_rfl) hS ?_
  refine sc (sg (sp_load ty24 (od rfl))) ?_
  refine sc (sg (sp_call en41 (f41_ok e_2) ⟨od rfl, trivial⟩)) ?_
  refine sc (sg (sp_assign (od rfl))) ?_
  refine sn fun a w hS => ?_
  refine exit_then ?_
  refine wp_seq ?_
  refine st_reg mixed (by kernel_rfl) hS ?_
  refine sc (sg (sp_move (od rfl))) ?_
  refine sc (sg (sp_neq (od rfl) (odi))) ?_
  refine sn fun a w hS => ?_
  refine exit_then ?_
  refine st_cond hS rfl (fun hb => ?_) (fun hb => ?_)
  · have h := ite_t hb h
    refine wp_seq ?_
    refine st_reg mixed (by kernel_rfl) hS ?_
    refine sc (sg (sp_move (od rfl))) ?_
    refine sc (sg (sp_assign (odnil (α := Int)))) ?_
    refine sc (sg (sp_assign (odb))) ?_
    refine sc (sg (sp_assign (od rfl))) ?_
    refine sn fun a w hS => ?_
    refine exit_then ?_
    refine wp_ret ?_
    refine exit_thenR ?_
    cases h
    exact st_ret hS (run_results3 Try.results29 a w) (⟨_, rfl, hS.get rfl, hS.get rfl, hS.get rfl, trivial⟩)
  · have h := ite_f hb h
    refine wp_skip ?_
    refine exit_then ?_
    refine wp_seq ?_
    obtain ⟨v_3, e_4, h⟩ := bind_some h
    obtain ⟨v_5, e_6, h⟩ := bind_some h
    obtain ⟨v_7, e_8, h⟩ := bind_some h
    refine st_reg mixed (by kernel_rfl) hS ?_
    refine sc (sg (sp_load ty24 (od rfl))) ?_
    refine sc (sg (sp_call en87 (f87_ok e_4) ⟨od rfl, odi, trivial⟩)) ?_
    refine sc (sg (sp_load ty24 (od rfl))) ?_
    refine sc (sg (sp_call en78 (f78_ok e_6) ⟨od rfl, od rfl, trivial⟩)) ?_
    refine sc (sg (sp_call en85 (f85_ok e_8) ⟨od rfl, trivial⟩)) ?_
    refine sc (sg (sp_extract (od rfl) rfl)) ?_
    refine sc (sg (sp_extract (od rfl) rfl)) ?_
    refine sc (sg (sp_extract (od rfl) rfl)) ?_
    refine sc (sg (sp_assign (od rfl))) ?_
    refine sc (sg (sp_assign (od rfl))) ?_
    refine sc (sg (sp_assign (od rfl))) ?_
    refine sn fun a w hS => ?_
    refine exit_then ?_
    refine wp_ret ?_
    cases h
    exact st_ret hS (run_results3 Try.results29 a w) (⟨_, rfl, hS.get rfl, hS.get rfl, hS.get rfl, trivial⟩)

theorem f30_ok {fuel : Nat} {p0 : S_api_Market} {r : (List Int) × Bool × Int} (h : M.f30 fuel p0 = some r) : CallOK Try.prog 30 [isV p0] (isTup [isV r.1, isV r.2.1, isV r.2.2]) := by
  unfold M.f30 at h
  refine callS_of Try.func30 rfl Try.ntmps30 rfl fun F0 w0 a hS => ?_
  refine wp_seq ?_
  refine st_reg mixed (by kernel_rfl) hS ?_
  refine sc (sg (sp_box (od rfl))) ?_
  refine sc (sg (sp_assign (odnil (α := Int)))) ?_
  refine sc (sg (sp_assign (odb))) ?_
  refine sc (sg (sp_assign (odi))) ?_
  refine sn fun a w hS => ?_
  refine exit_then ?_
  refine wp_seq ?_
  refine wp_seq ?_
  obtain ⟨v_1, e_2, h⟩ := bind_some h
  refine st_reg mixed (by kernel_rfl) hS ?_
  refine sc (sg (sp_load ty24 (od rfl))) ?_
  refine sc (sg (sp_call en72 (f72_ok e_2) ⟨od rfl, odnil (α := Int), odi, odnil (α := Int), trivial⟩)) ?_
  refine sc (sg (sp_assign (od rfl))) ?_
  refine sn fun a w hS => ?_
  refine exit_then ?_
  refine wp_seq ?_
  refine st_reg mixed (by kernel_rfl) hS ?_
  refine sc (sg (sp_move (od rfl))) ?_
  refine sc (sg (sp_neq (od rfl) (odi))) ?_
  refine sn fun a w hS => ?_
  refine exit_then ?_
  refine st_cond hS rfl (fun hb => ?_) (fun hb => ?_)
  · have h := ite_t hb h
    refine wp_seq ?_
    refine st_reg mixed (by kernel_rfl) hS ?_
    refine sc (sg (sp_move (od rfl))) ?_
    refine sc (sg (sp_assign (odnil (α := Int)))) ?_
    refine sc (sg (sp_assign (odb))) ?_
    refine sc (sg (sp_assign (od rfl))) ?_
    refine sn fun a w hS => ?_
    refine exit_then ?_
    refine wp_ret ?_
    refine exit_thenR ?_
    cases h
    exact st_ret hS (run_results3 Try.results30 a w) (⟨_, rfl, hS.get rfl, hS.get rfl, hS.get rfl, trivial⟩)
  · have h := ite_f hb h
    refine wp_skip ?_
    refine exit_then ?_
    refine wp_seq ?_
    obtain ⟨v_3, e_4, h⟩ := bind_some h
    refine st_reg mixed (by kernel_rfl) hS ?_
    refine sc (sg (sp_load ty24 (od rfl))) ?_
    refine sc (sg (sp_call en86 (f86_ok e_4) ⟨od rfl, odi, odi, odi, trivial⟩)) ?_
    refine sc (sg (sp_move (od rfl))) ?_
    refine sc (sg (sp_extract (od rfl) rfl)) ?_
    refine sc (sg (sp_extract (od rfl) rfl)) ?_
    refine sc (sg (sp_assign (od rfl))) ?_
    refine sc (sg (sp_assign (od rfl))) ?_
    refine sn fun a w hS => ?_
    refine exit_then ?_
    refine wp_seq ?_
    refine st_reg mixed (by kernel_rfl) hS ?_
    refine sc (sg (sp_move (od rfl))) ?_
    refine sc (sg (sp_move (od rfl))) ?_
    refine sc (sg (sp_assign (od rfl))) ?_
    refine sc (sg (sp_assign (od rfl))) ?_
    refine sc (sg (sp_assign (odi))) ?_
    refine sn fun a w hS => ?_
    refine exit_then ?_
    refine wp_ret ?_
    cases h
    exact st_ret hS (run_results3 Try.results30 a w) (⟨_, rfl, hS.get rfl, hS.get rfl, hS.get rfl, trivial⟩)

theorem f4_ok {fuel : Nat} {p0 : S_api_Market} {p1 : Int} {p2 : Int} {p3 : Int} {r : Bool} (h : M.f4 fuel p0 p1 p2 p3 = some r) : CallOK Try.prog 4 [isV p0, isV p1, isV p2, isV p3] (isV r) := by
  unfold M.f4 at h
  refine callS_of Try.func4 rfl Try.ntmps4 rfl fun F0 w0 a hS => ?_
  refine wp_seq ?_
  refine st_reg mixed (by kernel_rfl) hS ?_
  refine sc (sg (sp_box (od rfl))) ?_
  refine sc (sg (sp_assign (odb))) ?_
  refine sn fun a w hS => ?_
  refine exit_then ?_
  refine wp_seq ?_
  refine wp_seq ?_
  obtain ⟨v_1, e_2, h⟩ := bind_some h
  refine st_reg mixed (by kernel_rfl) hS ?_
  refine sc (sg (sp_call en16 (f16_ok e_2) trivial)) ?_
  refine sc (sg (sp_not (od rfl))) ?_
  refine sn fun a w hS => ?_
  refine exit_then ?_
  refine st_cond hS rfl (fun hb => ?_) (fun hb => ?_)
  · have h := ite_t hb h
    refine wp_seq ?_
    refine st_reg mixed (by kernel_rfl) hS ?_
    refine sc (sg (sp_assign (odb))) ?_
    refine sn fun a w hS => ?_
    refine exit_then ?_
    refine wp_ret ?_
    refine exit_thenR ?_
    cases h
    exact st_ret hS (run_results1 Try.results4 a w) (hS.get rfl)
  · have h := ite_f hb h
    refine wp_skip ?_
    refine exit_then ?_
    refine wp_seq ?_
    refine wp_seq ?_
    obtain ⟨v_3, e_4, h⟩ := bind_some h
    refine st_reg mixed (by kernel_rfl) hS ?_
    refine sc (sg (sp_load ty24 (od rfl))) ?_
    refine sc (sg (sp_call en17 (f17_ok e_4) ⟨od rfl, trivial⟩)) ?_
    refine sc (sg (sp_not (od rfl))) ?_
    refine sn fun a w hS => ?_
    refine exit_then ?_
    refine st_cond hS rfl (fun hb => ?_) (fun hb => ?_)
    · have h := ite_t hb h
      refine wp_seq ?_
      refine st_reg mixed (by kernel_rfl) hS ?_
      refine sc (sg (sp_assign (odb))) ?_
      refine sn fun a w hS => ?_
      refine exit_then ?_
      refine wp_ret ?_
      refine exit_thenR ?_
      cases h
      exact st_ret hS (run_results1 Try.results4 a w) (hS.get rfl)
    · have h := ite_f hb h
      refine wp_skip ?_
      refine exit_then ?_
      refine wp_seq ?_
      obtain ⟨v_5, e_6, h⟩ := bind_some h
      refine st_reg mixed (by kernel_rfl) hS ?_
      refine sc (sg (sp_load ty24 (od rfl))) ?_
      refine sc (sg (sp_move (od rfl))) ?_
      refine sc (sg (sp_move (od rfl))) ?_
      refine sc (sg (sp_move (od rfl))) ?_
      refine sc (sg (sp_call en25 (f25_ok e_6) ⟨od rfl, od rfl, od rfl, od rfl, trivial⟩)) ?_
      refine sc (sg (sp_move (od rfl))) ?_
      refine sc (sg (sp_extract (od rfl) rfl)) ?_
      refine sc (sg (sp_extract (od rfl) rfl)) ?_
      refine sc (sg (sp_extract (od rfl) rfl)) ?_
      refine sc (sg (sp_assign (od rfl))) ?_
      refine sc (sg (sp_assign (od rfl))) ?_
      refine sc (sg (sp_assign (od rfl))) ?_
      refine sn fun a w hS => ?_
      refine exit_then ?_
      refine wp_seq ?_
      obtain ⟨v_7, e_8, h⟩ := bind_some h
      refine st_reg mixed (by kernel_rfl) hS ?_
      refine sc (sg (sp_load ty24 (od rfl))) ?_
      refine sc (sg (sp_move (od rfl))) ?_
      refine sc (sg (sp_move (od rfl))) ?_
      refine sc (sg (sp_move (od rfl))) ?_
      refine sc (sg (sp_call en26 (f26_ok e_8) ⟨od rfl, od rfl, od rfl, od rfl, trivial⟩)) ?_
      refine sc (sg (sp_move (od rfl))) ?_
      refine sc (sg (sp_extract (od rfl) rfl)) ?_
      refine sc (sg (sp_extract (od rfl) rfl)) ?_
      refine sc (sg (sp_extract (od rfl) rfl)) ?_
      refine sc (sg (sp_assign (od rfl))) ?_
      refine sc (sg (sp_assign (od rfl))) ?_
      refine sc (sg (sp_assign (od rfl))) ?_
      refine sn fun a w hS => ?_
      refine exit_then ?_
      refine wp_seq ?_
      refine wp_seq ?_
      obtain ⟨v_9, e_10, h⟩ := bind_some h
      refine st_reg mixed (by kernel_rfl) hS ?_
      refine sc (sg (sp_move (od rfl))) ?_
      refine sc (sg (sp_move (od rfl))) ?_
      refine sc (sg (sp_call en24 (f24_ok e_10) ⟨od rfl, od rfl, trivial⟩)) ?_
      refine sc (sg (sp_not (od rfl))) ?_
      refine sc (sg (sp_move (od rfl))) ?_
      refine sc (sgF rfl fun hG => sp_move (od rfl)) ?_
      refine sc (sgF rfl fun hG => sp_move (od rfl)) ?_
      refine sc (sgF rfl fun hG => sp_neqB Try.underlying4 (odw rfl hG) (odw rfl hG)) ?_
      refine sc (sg (sp_pickOr (od rfl) fun hg => odw rfl (not_t hg))) ?_
      refine sc (sg (sp_move (od rfl))) ?_
      refine sc (sgF rfl fun hG => sp_move (od rfl)) ?_
      refine sc (sgF rfl fun hG => sp_move (od rfl)) ?_
      refine sc (sgF rfl fun hG => sp_neq (odw rfl hG) (odw rfl hG)) ?_
      refine sc (sg (sp_pickOr (od rfl) fun hg => odw rfl (not_t hg))) ?_
      refine sn fun a w hS => ?_
      refine exit_then ?_
      refine st_cond hS rfl (fun hb => ?_) (fun hb => ?_)
      · have h := ite_t hb h
        refine wp_seq ?_
        refine st_reg mixed (by kernel_rfl) hS ?_
        refine sc (sg (sp_assign (odb))) ?_
        refine sn fun a w hS => ?_
        refine exit_then ?_
        refine wp_ret ?_
        refine exit_thenR ?_
        cases h
        exact st_ret hS (run_results1 Try.results4 a w) (hS.get rfl)
      · have h := ite_f hb h
        refine wp_skip ?_
        refine exit_then ?_
        refine wp_seq ?_
        obtain ⟨v_11, e_12, h⟩ := bind_some h
        refine st_reg mixed (by kernel_rfl) hS ?_
        refine sc (sg (sp_load ty24 (od rfl))) ?_
        refine sc (sg (sp_move (od rfl))) ?_
        refine sc (sg (sp_call en27 (f27_ok e_12) ⟨od rfl, od rfl, trivial⟩)) ?_
        refine sc (sg (sp_move (od rfl))) ?_
        refine sc (sg (sp_extract (od rfl) rfl)) ?_
        refine sc (sg (sp_extract (od rfl) rfl)) ?_
        refine sc (sg (sp_extract (od rfl) rfl)) ?_
        refine sc (sg (sp_assign (od rfl))) ?_
        refine sc (sg (sp_assign (od rfl))) ?_
        refine sc (sg (sp_assign (od rfl))) ?_
        refine sn fun a w hS => ?_
        refine exit_then ?_
        refine wp_seq ?_
        obtain ⟨v_13, e_14, h⟩ := bind_some h
        refine st_reg mixed (by kernel_rfl) hS ?_
        refine sc (sg (sp_load ty24 (od rfl))) ?_
        refine sc (sg (sp_move (od rfl))) ?_
        refine sc (sg (sp_call en28 (f28_ok e_14) ⟨od rfl, od rfl, trivial⟩)) ?_
        refine sc (sg (sp_move (od rfl))) ?_
        refine sc (sg (sp_extract (od rfl) rfl)) ?_
        refine sc (sg (sp_extract (od rfl) rfl)) ?_
        refine sc (sg (sp_extract (od rfl) rfl)) ?_
        refine sc (sg (sp_assign (od rfl))) ?_
        refine sc (sg (sp_assign (od rfl))) ?_
        refine sc (sg (sp_assign (od rfl))) ?_
        refine sn fun a w hS => ?_
        refine exit_then ?_
        refine wp_seq ?_
        refine wp_seq ?_
        obtain ⟨v_15, e_16, h⟩ := bind_some h
        refine st_reg mixed (by kernel_rfl) hS ?_
        refine sc (sg (sp_move (od rfl))) ?_
        refine sc (sg (sp_move (od rfl))) ?_
        refine sc (sg (sp_call en24 (f24_ok e_16) ⟨od rfl, od rfl, trivial⟩)) ?_
        refine sc (sg (sp_not (od rfl))) ?_
        refine sc (sg (sp_move (od rfl))) ?_
        refine sc (sgF rfl fun hG => sp_move (od rfl)) ?_
        refine sc (sgF rfl fun hG => sp_move (od rfl)) ?_
        refine sc (sgF rfl fun hG => sp_neqB Try.underlying4 (odw rfl hG) (odw rfl hG)) ?_
        refine sc (sg (sp_pickOr (od rfl) fun hg => odw rfl (not_t hg))) ?_
        refine sc (sg (sp_move (od rfl))) ?_
        refine sc (sgF rfl fun hG => sp_move (od rfl)) ?_
        refine sc (sgF rfl fun hG => sp_move (od rfl)) ?_
        refine sc (sgF rfl fun hG => sp_neq (odw rfl hG) (odw rfl hG)) ?_
        refine sc (sg (sp_pickOr (od rfl) fun hg => odw rfl (not_t hg))) ?_
        refine sn fun a w hS => ?_
        refine exit_then ?_
        refine st_cond hS rfl (fun hb => ?_) (fun hb => ?_)
        · have h := ite_t hb h
          refine wp_seq ?_
          refine st_reg mixed (by kernel_rfl) hS ?_
          refine sc (sg (sp_assign (odb))) ?_
          refine sn fun a w hS => ?_
          refine exit_then ?_
          refine wp_ret ?_
          refine exit_thenR ?_
          cases h
          exact st_ret hS (run_results1 Try.results4 a w) (hS.get rfl)
        · have h := ite_f hb h
          refine wp_skip ?_
          refine exit_then ?_
          refine wp_seq ?_
          obtain ⟨v_17, e_18, h⟩ := bind_some h
          refine st_reg mixed (by kernel_rfl) hS ?_
          refine sc (sg (sp_load ty24 (od rfl))) ?_
          refine sc (sg (sp_call en29 (f29_ok e_18) ⟨od rfl, trivial⟩)) ?_
          refine sc (sg (sp_move (od rfl))) ?_
          refine sc (sg (sp_extract (od rfl) rfl)) ?_
          refine sc (sg (sp_extract (od rfl) rfl)) ?_
          refine sc (sg (sp_extract (od rfl) rfl)) ?_
          refine sc (sg (sp_assign (od rfl))) ?_
          refine sc (sg (sp_assign (od rfl))) ?_
          refine sc (sg (sp_assign (od rfl))) ?_
          refine sn fun a w hS => ?_
          refine exit_then ?_
          refine wp_seq ?_
          obtain ⟨v_19, e_20, h⟩ := bind_some h
          refine st_reg mixed (by kernel_rfl) hS ?_
          refine sc (sg (sp_load ty24 (od rfl))) ?_
          refine sc (sg (sp_call en30 (f30_ok e_20) ⟨od rfl, trivial⟩)) ?_
          refine sc (sg (sp_move (od rfl))) ?_
          refine sc (sg (sp_extract (od rfl) rfl)) ?_
          refine sc (sg (sp_extract (od rfl) rfl)) ?_
          refine sc (sg (sp_extract (od rfl) rfl)) ?_
          refine sc (sg (sp_assign (od rfl))) ?_
          refine sc (sg (sp_assign (od rfl))) ?_
          refine sc (sg (sp_assign (od rfl))) ?_
          refine sn fun a w hS => ?_
          refine exit_then ?_
          refine wp_seq ?_
          obtain ⟨v_21, e_22, h⟩ := bind_some h
          refine st_reg mixed (by kernel_rfl) hS ?_
          refine sc (sg (sp_move (od rfl))) ?_
          refine sc (sg (sp_move (od rfl))) ?_
          refine sc (sg (sp_call en24 (f24_ok e_22) ⟨od rfl, od rfl, trivial⟩)) ?_
          refine sc (sg (sp_move (od rfl))) ?_
          refine sc (sgT rfl fun hG => sp_move (od rfl)) ?_
          refine sc (sgT rfl fun hG => sp_move (od rfl)) ?_
          refine sc (sgT rfl fun hG => sp_eqlB Try.underlying4 (odw rfl hG) (odw rfl hG)) ?_
          refine sc (sg (sp_pickAnd (od rfl) fun hg => odw rfl hg)) ?_
          refine sc (sg (sp_move (od rfl))) ?_
          refine sc (sgT rfl fun hG => sp_move (od rfl)) ?_
          refine sc (sgT rfl fun hG => sp_move (od rfl)) ?_
          refine sc (sgT rfl fun hG => sp_eql (odw rfl hG) (odw rfl hG)) ?_
          refine sc (sg (sp_pickAnd (od rfl) fun hg => odw rfl hg)) ?_
          refine sc (sg (sp_assign (od rfl))) ?_
          refine sn fun a w hS => ?_
          refine exit_then ?_
          refine wp_ret ?_
          cases h
          exact st_ret hS (run_results1 Try.results4 a w) (hS.get rfl)

end Go.Proofs.Ytkbilbeaedocjaa
