/-
  What is proved: each Go function named here returns what its model tells, and changes nothing that was there; where the model tells something.
-/
import Derived.Test.YtkbilbeaedocjaaWalkA
import Derived.Test.YtkbilbeaedocjaaGivenb
import Derived.Test.YtkbilbeaedocjaaModelB1
set_option linter.unusedVariables false
set_option maxRecDepth 100000
namespace Go.Proofs.Ytkbilbeaedocjaa
open Go Go.RowKit Go.Proofs.Ytkbilbeaedocjaa.Wh

theorem f68_ok  {r : S_api_Market} (h : M.f68  = some r) : CallOK Try.prog 68 [] (isV r) := by
  unfold M.f68 at h
  refine callS_of Try.func68 rfl Try.ntmps68 rfl fun F0 w0 a hS => ?_
  refine wp_seq ?_
  refine l_start ?_
  refine s_alloc zi24 hS rfl fun a w b_1 hS hM => ?_
  have hS : St _ F0 [Item.box (α := S_api_Market) 24 b_1 ((0, [], []) : S_api_Market)] _ w0 _ _ := hS
  refine l_end ?_
  refine exit_then ?_
  refine wp_seq ?_
  refine l_start ?_
  refine s_c hS (sg (bd59_0123 (odi) (odi) (odi) (odi))) rfl fun a w hS hM => ?_
  refine s_c hS (sg (bd59_0123 (odi) (odi) (odi) (odi))) rfl fun a w hS hM => ?_
  refine s_c hS (sg (bd59_0123 (odi) (odi) (odi) (odi))) rfl fun a w hS hM => ?_
  refine s_c hS (sg (sp_buildSlice [.tmp 1, .tmp 2, .tmp 3] ([((0, 1, 5, 10) : S_api_Offer), ((1, 2, 4, 10) : S_api_Offer), ((0, 2, 12, 5) : S_api_Offer)] : List S_api_Offer) sl22 ze59 rfl rfl rfl rfl ⟨od rfl, od rfl, od rfl, trivial⟩)) rfl fun a w hS hM => ?_
  refine s_c hS (sg (bd24_02 (odi) (od rfl))) rfl fun a w hS hM => ?_
  refine s_storeB (k := 0) (Δ := [(0, Pr.ptr b_1), (5, isV (α := S_api_Market) ((3, [], ([((0, 1, 5, 10) : S_api_Offer), ((1, 2, 4, 10) : S_api_Offer), ((0, 2, 12, 5) : S_api_Offer)] : List S_api_Offer)) : S_api_Market))]) ty24 hS rfl ⟨od rfl, od rfl, trivial⟩ ⟨fun _ _ _ _ h => h, fun _ _ _ _ h => h, trivial⟩ rfl (od rfl) fun w hS hM => ?_
  have hS : St _ F0 [Item.box (α := S_api_Market) 24 b_1 ((3, [], ([((0, 1, 5, 10) : S_api_Offer), ((1, 2, 4, 10) : S_api_Offer), ((0, 2, 12, 5) : S_api_Offer)] : List S_api_Offer)) : S_api_Market)] _ w0 _ _ := hS
  have hS := st_freezeB 0 0 hS rfl rfl
  refine l_end ?_
  refine exit_then ?_
  refine wp_ret ?_
  cases h
  obtain ⟨v, hr, hv⟩ := run_resC1 Try.results68 ty24 (hS.get rfl)
  exact st_ret hS hr hv

theorem f95_ok {p0 : S_api_Offer} {p1 : Int} {p2 : Int} {r : Bool} (h : M.f95 p0 p1 p2 = some r) : CallOK Try.prog 95 [isV p0, isV p1, isV p2] (isV r) := by
  unfold M.f95 at h
  refine callS_of Try.func95 rfl Try.ntmps95 rfl fun F0 w0 a hS => ?_
  refine wp_seq ?_
  refine st_reg mixed (by kernel_rfl) hS ?_
  refine sc (sg (sp_box (od rfl))) ?_
  refine sc (sg (sp_assign (odb))) ?_
  refine sn fun a w hS => ?_
  refine exit_then ?_
  refine wp_seq ?_
  refine st_reg mixed (by kernel_rfl) hS ?_
  refine sc (sg (sp_fieldAddr fd59_0 (od rfl))) ?_
  refine sc (sg (sp_load ty3 (od rfl))) ?_
  refine sc (sg (sp_geq (od rfl) (odi))) ?_
  refine sc (sg (sp_move (od rfl))) ?_
  refine sc (sgT rfl fun hG => sp_fieldAddr fd59_0 (od rfl)) ?_
  refine sc (sgT rfl fun hG => sp_load ty3 (odw rfl hG)) ?_
  refine sc (sgT rfl fun hG => sp_move (od rfl)) ?_
  refine sc (sgT rfl fun hG => sp_lss (odw rfl hG) (odw rfl hG)) ?_
  refine sc (sg (sp_pickAnd (od rfl) fun hg => odw rfl hg)) ?_
  refine sc (sg (sp_move (od rfl))) ?_
  refine sc (sgT rfl fun hG => sp_fieldAddr fd59_1 (od rfl)) ?_
  refine sc (sgT rfl fun hG => sp_load ty3 (odw rfl hG)) ?_
  refine sc (sgT rfl fun hG => sp_geq (odw rfl hG) (odi)) ?_
  refine sc (sg (sp_pickAnd (od rfl) fun hg => odw rfl hg)) ?_
  refine sc (sg (sp_move (od rfl))) ?_
  refine sc (sgT rfl fun hG => sp_fieldAddr fd59_1 (od rfl)) ?_
  refine sc (sgT rfl fun hG => sp_load ty3 (odw rfl hG)) ?_
  refine sc (sgT rfl fun hG => sp_move (od rfl)) ?_
  refine sc (sgT rfl fun hG => sp_lss (odw rfl hG) (odw rfl hG)) ?_
  refine sc (sg (sp_pickAnd (od rfl) fun hg => odw rfl hg)) ?_
  refine sc (sg (sp_move (od rfl))) ?_
  refine sc (sgT rfl fun hG => sp_fieldAddr fd59_0 (od rfl)) ?_
  refine sc (sgT rfl fun hG => sp_load ty3 (odw rfl hG)) ?_
  refine sc (sgT rfl fun hG => sp_fieldAddr fd59_1 (od rfl)) ?_
  refine sc (sgT rfl fun hG => sp_load ty3 (odw rfl hG)) ?_
  refine sc (sgT rfl fun hG => sp_neq (odw rfl hG) (odw rfl hG)) ?_
  refine sc (sg (sp_pickAnd (od rfl) fun hg => odw rfl hg)) ?_
  refine sc (sg (sp_move (od rfl))) ?_
  refine sc (sgT rfl fun hG => sp_fieldAddr fd59_3 (od rfl)) ?_
  refine sc (sgT rfl fun hG => sp_load ty3 (odw rfl hG)) ?_
  refine sc (sgT rfl fun hG => sp_geq (odw rfl hG) (odi)) ?_
  refine sc (sg (sp_pickAnd (od rfl) fun hg => odw rfl hg)) ?_
  refine sc (sg (sp_move (od rfl))) ?_
  refine sc (sgT rfl fun hG => sp_fieldAddr fd59_3 (od rfl)) ?_
  refine sc (sgT rfl fun hG => sp_load ty3 (odw rfl hG)) ?_
  refine sc (sgT rfl fun hG => sp_leq (odw rfl hG) (odi)) ?_
  refine sc (sg (sp_pickAnd (od rfl) fun hg => odw rfl hg)) ?_
  refine sc (sg (sp_move (od rfl))) ?_
  refine sc (sgT rfl fun hG => sp_fieldAddr fd59_2 (od rfl)) ?_
  refine sc (sgT rfl fun hG => sp_load ty3 (odw rfl hG)) ?_
  refine sc (sgT rfl fun hG => sp_geq (odw rfl hG) (odi)) ?_
  refine sc (sg (sp_pickAnd (od rfl) fun hg => odw rfl hg)) ?_
  refine sc (sg (sp_move (od rfl))) ?_
  refine sc (sgT rfl fun hG => sp_fieldAddr fd59_2 (od rfl)) ?_
  refine sc (sgT rfl fun hG => sp_load ty3 (odw rfl hG)) ?_
  refine sc (sgT rfl fun hG => sp_move (od rfl)) ?_
  refine sc (sgT rfl fun hG => sp_leq (odw rfl hG) (odw rfl hG)) ?_
  refine sc (sg (sp_pickAnd (od rfl) fun hg => odw rfl hg)) ?_
  refine sc (sg (sp_assign (od rfl))) ?_
  refine sn fun a w hS => ?_
  refine exit_then ?_
  refine wp_ret ?_
  cases h
  exact st_ret hS (run_results1 Try.results95 a w) (hS.get rfl)

theorem f41_ok {p0 : S_api_Market} {r : Int} (h : M.f41 p0 = some r) : CallOK Try.prog 41 [isV p0] (isV r) := by
  unfold M.f41 at h
  refine callS_of Try.func41 rfl Try.ntmps41 rfl fun F0 w0 a hS => ?_
  refine wp_seq ?_
  refine st_reg mixed (by kernel_rfl) hS ?_
  refine sc (sg (sp_box (od rfl))) ?_
  refine sc (sg (sp_assign (odi))) ?_
  refine sn fun a w hS => ?_
  refine exit_then ?_
  refine wp_seq ?_
  refine wp_seq ?_
  refine st_reg mixed (by kernel_rfl) hS ?_
  refine sc (sg (sp_fieldAddr fd24_0 (od rfl))) ?_
  refine sc (sg (sp_load ty3 (od rfl))) ?_
  refine sc (sg (sp_lss (od rfl) (odi))) ?_
  refine sc (sg (sp_move (od rfl))) ?_
  refine sc (sgF rfl fun hG => sp_fieldAddr fd24_0 (od rfl)) ?_
  refine sc (sgF rfl fun hG => sp_load ty3 (odw rfl hG)) ?_
  refine sc (sgF rfl fun hG => sp_gtr (odw rfl hG) (odi)) ?_
  refine sc (sg (sp_pickOr (od rfl) fun hg => odw rfl (not_t hg))) ?_
  refine sc (sg (sp_move (od rfl))) ?_
  refine sc (sgF rfl fun hG => sp_fieldAddr fd24_1 (od rfl)) ?_
  refine sc (sgF rfl fun hG => sp_load ty22 (odw rfl hG)) ?_
  refine sc (sgF rfl fun hG => sp_len Try.underlying22 (odw rfl hG)) ?_
  refine sc (sgF rfl fun hG => sp_gtr (odw rfl hG) (odi)) ?_
  refine sc (sg (sp_pickOr (od rfl) fun hg => odw rfl (not_t hg))) ?_
  refine sc (sg (sp_move (od rfl))) ?_
  refine sc (sgF rfl fun hG => sp_fieldAddr fd24_2 (od rfl)) ?_
  refine sc (sgF rfl fun hG => sp_load ty22 (odw rfl hG)) ?_
  refine sc (sgF rfl fun hG => sp_len Try.underlying22 (odw rfl hG)) ?_
  refine sc (sgF rfl fun hG => sp_gtr (odw rfl hG) (odi)) ?_
  refine sc (sg (sp_pickOr (od rfl) fun hg => odw rfl (not_t hg))) ?_
  refine sn fun a w hS => ?_
  refine exit_then ?_
  refine st_cond hS rfl (fun hb => ?_) (fun hb => ?_)
  · have h := ite_t hb h
    refine wp_seq ?_
    refine st_reg mixed (by kernel_rfl) hS ?_
    refine sc (sg (sp_assign (odi))) ?_
    refine sn fun a w hS => ?_
    refine exit_then ?_
    refine wp_ret ?_
    refine exit_thenR ?_
    cases h
    exact st_ret hS (run_results1 Try.results41 a w) (hS.get rfl)
  · have h := ite_f hb h
    refine wp_skip ?_
    refine exit_then ?_
    refine wp_seq ?_
    refine wp_seq ?_
    refine st_reg mixed (by kernel_rfl) hS ?_
    refine sc (sg (sp_fieldAddr fd24_1 (od rfl))) ?_
    refine sc (sg (sp_load ty22 (od rfl))) ?_
    refine sc (sg (sp_len Try.underlying22 (od rfl))) ?_
    refine sc (sg (sp_move (odi))) ?_
    refine sn fun a w hS => ?_
    refine exit_then ?_
    refine wp_block ?_
    obtain ⟨o_4, e_5, hr_6⟩ := bind_some h
    refine c_loop (fun K a w => ∃ k i_1 s_3, K = k + 1 ∧ ForI _ _ _ o_4 k i_1 s_3 ∧ St 53 F0 [] [(1, isA (α := S_api_Market) p0), (28, isV (α := List S_api_Offer) p0.2.1), (29, isV (α := Int) (p0.2.1.length : Int)), (30, isV (α := Int) i_1)] w0 a w) ?_ ?_ ⟨_, _, _, rfl, for_init e_5, hS.weak ⟨od rfl, od rfl, od rfl, od rfl, trivial⟩⟩
    · rintro a w ⟨_, _, _, hk, _⟩; cases hk
    rintro K a w ⟨k_4, i_1, s_3, hk, hF_4, hS⟩
    obtain rfl := Nat.succ.inj hk
    refine wp_seq ?_
    refine st_reg mixed (by kernel_rfl) hS ?_
    refine sc (sg (sp_lss (od rfl) (od rfl))) ?_
    refine sn fun a w hS => ?_
    refine exit_then ?_
    refine wp_seq ?_
    refine st_cond hS rfl (fun hb => ?_) (fun hb => ?_)
    · refine wp_skip ?_
      refine exit_then ?_
      obtain ⟨k_4, o, rfl, h, hN_4, hL_4, hw_4⟩ := for_more hF_4 hb
      refine wp_seq ?_
      refine wp_block ?_
      refine wp_seq ?_
      obtain ⟨v_7, e_8, h⟩ := bind_some h
      refine l_start ?_
      refine s_c hS (sg (sp_indexAddr sl22 (od rfl) (od rfl) e_8)) rfl fun a w hS hM => ?_
      refine s_c hS (sg (sp_load ty59 (od rfl))) rfl fun a w hS hM => ?_
      refine s_allocStore ze59 hS (od rfl) (fun k hk => by cases hk; rfl) rfl fun a w hS hM => ?_
      refine l_end ?_
      refine exit_then ?_
      refine wp_seq ?_
      obtain ⟨v_9, e_10, h⟩ := bind_some h
      refine st_reg mixed (by kernel_rfl) hS ?_
      refine sc (sg (sp_load ty59 (od rfl))) ?_
      refine sc (sg (sp_fieldAddr fd24_0 (od rfl))) ?_
      refine sc (sg (sp_load ty3 (od rfl))) ?_
      refine sc (sg (sp_call en95 (f95_ok e_10) ⟨od rfl, od rfl, odi, trivial⟩)) ?_
      refine sc (sg (sp_not (od rfl))) ?_
      refine sn fun a w hS => ?_
      refine exit_then ?_
      refine st_cond hS rfl (fun hb => ?_) (fun hb => ?_)
      · have h := ite_t hb h
        refine wp_seq ?_
        refine st_reg mixed (by kernel_rfl) hS ?_
        refine sc (sg (sp_assign (odi))) ?_
        refine sn fun a w hS => ?_
        refine exit_then ?_
        refine wp_ret ?_
        refine exit_blockR ?_
        refine exit_thenR ?_
        cases h
        obtain rfl := hL_4 _ rfl
        have h := (elim_leave hr_6)
        refine exit_thenR ?_
        refine exit_blockR ?_
        refine exit_thenR ?_
        cases h
        exact st_ret hS (run_results1 Try.results41 a w) (hS.get rfl)
      · have h := ite_f hb h
        refine wp_skip ?_
        refine exit_block ?_
        refine exit_then ?_
        refine st_reg mixed (by kernel_rfl) hS ?_
        refine sc (sg (sp_add (od rfl) (odi))) ?_
        refine sc (sg (sp_move (od rfl))) ?_
        refine sn fun a w hS => ?_
        cases h
        exact ⟨k_4, _, _, rfl, hN_4 _ rfl, hS.weak ⟨od rfl, od rfl, od rfl, od (congrArg (fun z => some (isV (α := Int) z)) hw_4), trivial⟩⟩
    · refine wp_exit ?_
      obtain rfl := for_done hF_4 hb
      have h := elim_again hr_6
      refine exit_thenE ?_
      refine exit_thenE ?_
      refine exit_here ?_
      refine exit_then ?_
      refine wp_seq ?_
      refine wp_seq ?_
      refine st_reg mixed (by kernel_rfl) hS ?_
      refine sc (sg (sp_fieldAddr fd24_2 (od rfl))) ?_
      refine sc (sg (sp_load ty22 (od rfl))) ?_
      refine sc (sg (sp_len Try.underlying22 (od rfl))) ?_
      refine sc (sg (sp_move (odi))) ?_
      refine sn fun a w hS => ?_
      refine exit_then ?_
      refine wp_block ?_
      obtain ⟨o_14, e_15, hr_16⟩ := bind_some h
      refine c_loop (fun K a w => ∃ k i_11 s_13, K = k + 1 ∧ ForI _ _ _ o_14 k i_11 s_13 ∧ St 53 F0 [] [(1, isA (α := S_api_Market) p0), (41, isV (α := List S_api_Offer) p0.2.2), (42, isV (α := Int) (p0.2.2.length : Int)), (43, isV (α := Int) i_11)] w0 a w) ?_ ?_ ⟨_, _, _, rfl, for_init e_15, hS.weak ⟨od rfl, od rfl, od rfl, od rfl, trivial⟩⟩
      · rintro a w ⟨_, _, _, hk, _⟩; cases hk
      rintro K a w ⟨k_14, i_11, s_13, hk, hF_14, hS⟩
      obtain rfl := Nat.succ.inj hk
      refine wp_seq ?_
      refine st_reg mixed (by kernel_rfl) hS ?_
      refine sc (sg (sp_lss (od rfl) (od rfl))) ?_
      refine sn fun a w hS => ?_
      refine exit_then ?_
      refine wp_seq ?_
      refine st_cond hS rfl (fun hb => ?_) (fun hb => ?_)
      · refine wp_skip ?_
        refine exit_then ?_
        obtain ⟨k_14, o, rfl, h, hN_14, hL_14, hw_14⟩ := for_more hF_14 hb
        refine wp_seq ?_
        refine wp_block ?_
        refine wp_seq ?_
        obtain ⟨v_17, e_18, h⟩ := bind_some h
        refine l_start ?_
        refine s_c hS (sg (sp_indexAddr sl22 (od rfl) (od rfl) e_18)) rfl fun a w hS hM => ?_
        refine s_c hS (sg (sp_load ty59 (od rfl))) rfl fun a w hS hM => ?_
        refine s_allocStore ze59 hS (od rfl) (fun k hk => by cases hk; rfl) rfl fun a w hS hM => ?_
        refine l_end ?_
        refine exit_then ?_
        refine wp_seq ?_
        obtain ⟨v_19, e_20, h⟩ := bind_some h
        refine st_reg mixed (by kernel_rfl) hS ?_
        refine sc (sg (sp_load ty59 (od rfl))) ?_
        refine sc (sg (sp_fieldAddr fd24_0 (od rfl))) ?_
        refine sc (sg (sp_load ty3 (od rfl))) ?_
        refine sc (sg (sp_call en95 (f95_ok e_20) ⟨od rfl, od rfl, odi, trivial⟩)) ?_
        refine sc (sg (sp_not (od rfl))) ?_
        refine sn fun a w hS => ?_
        refine exit_then ?_
        refine st_cond hS rfl (fun hb => ?_) (fun hb => ?_)
        · have h := ite_t hb h
          refine wp_seq ?_
          refine st_reg mixed (by kernel_rfl) hS ?_
          refine sc (sg (sp_assign (odi))) ?_
          refine sn fun a w hS => ?_
          refine exit_then ?_
          refine wp_ret ?_
          refine exit_blockR ?_
          refine exit_thenR ?_
          cases h
          obtain rfl := hL_14 _ rfl
          have h := (elim_leave hr_16)
          refine exit_thenR ?_
          refine exit_blockR ?_
          refine exit_thenR ?_
          cases h
          exact st_ret hS (run_results1 Try.results41 a w) (hS.get rfl)
        · have h := ite_f hb h
          refine wp_skip ?_
          refine exit_block ?_
          refine exit_then ?_
          refine st_reg mixed (by kernel_rfl) hS ?_
          refine sc (sg (sp_add (od rfl) (odi))) ?_
          refine sc (sg (sp_move (od rfl))) ?_
          refine sn fun a w hS => ?_
          cases h
          exact ⟨k_14, _, _, rfl, hN_14 _ rfl, hS.weak ⟨od rfl, od rfl, od rfl, od (congrArg (fun z => some (isV (α := Int) z)) hw_14), trivial⟩⟩
      · refine wp_exit ?_
        obtain rfl := for_done hF_14 hb
        have h := elim_again hr_16
        refine exit_thenE ?_
        refine exit_thenE ?_
        refine exit_here ?_
        refine exit_then ?_
        refine wp_seq ?_
        refine st_reg mixed (by kernel_rfl) hS ?_
        refine sc (sg (sp_assign (odi))) ?_
        refine sn fun a w hS => ?_
        refine exit_then ?_
        refine wp_ret ?_
        cases h
        exact st_ret hS (run_results1 Try.results41 a w) (hS.get rfl)

theorem f76_ok {p0 : S_api_Market} {p1 : List Int} {p2 : S_keeper_numbers} {r : Int} (h : M.f76 p0 p1 p2 = some r) : CallOK Try.prog 76 [isV p0, isV p1, isV p2] (isV r) := by
  unfold M.f76 at h
  refine callS_of Try.func76 rfl Try.ntmps76 rfl fun F0 w0 a hS => ?_
  refine wp_seq ?_
  refine st_reg mixed (by kernel_rfl) hS ?_
  refine sc (sg (sp_box (od rfl))) ?_
  refine sc (sg (sp_box (od rfl))) ?_
  refine sc (sg (sp_assign (odi))) ?_
  refine sn fun a w hS => ?_
  refine exit_then ?_
  refine wp_seq ?_
  refine wp_seq ?_
  obtain ⟨v_1, e_2, h⟩ := bind_some h
  refine st_reg mixed (by kernel_rfl) hS ?_
  refine sc (sg (sp_load ty24 (od rfl))) ?_
  refine sc (sg (sp_call en41 (f41_ok e_2) ⟨od rfl, trivial⟩)) ?_
  refine sc (sg (sp_assign (od rfl))) ?_
  refine sn fun a w hS => ?_
  refine exit_then ?_
  refine wp_seq ?_
  refine st_reg mixed (by kernel_rfl) hS ?_
  refine sc (sg (sp_move (od rfl))) ?_
  refine sc (sg (sp_neq (od rfl) (odi))) ?_
  refine sn fun a w hS => ?_
  refine exit_then ?_
  refine st_cond hS rfl (fun hb => ?_) (fun hb => ?_)
  · have h := ite_t hb h
    refine wp_seq ?_
    refine st_reg mixed (by kernel_rfl) hS ?_
    refine sc (sg (sp_move (od rfl))) ?_
    refine sc (sg (sp_assign (od rfl))) ?_
    refine sn fun a w hS => ?_
    refine exit_then ?_
    refine wp_ret ?_
    refine exit_thenR ?_
    cases h
    exact st_ret hS (run_results1 Try.results76 a w) (hS.get rfl)
  · have h := ite_f hb h
    refine wp_skip ?_
    refine exit_then ?_
    refine wp_seq ?_
    refine wp_seq ?_
    refine st_reg mixed (by kernel_rfl) hS ?_
    refine sc (sg (sp_move (od rfl))) ?_
    refine sc (sg (sp_len Try.underlying27 (od rfl))) ?_
    refine sc (sg (sp_move (odi))) ?_
    refine sn fun a w hS => ?_
    refine exit_then ?_
    refine wp_block ?_
    obtain ⟨o_6, e_7, hr_8⟩ := bind_some h
    refine c_loop (fun K a w => ∃ k i_3 s_5, K = k + 1 ∧ ForI _ _ _ o_6 k i_3 s_5 ∧ St 79 F0 [] [(1, isV (α := List Int) p1), (3, isA (α := S_api_Market) p0), (5, isA (α := S_keeper_numbers) p2), (19, isV (α := List Int) p1), (20, isV (α := Int) (p1.length : Int)), (21, isV (α := Int) i_3)] w0 a w) ?_ ?_ ⟨_, _, _, rfl, for_init e_7, hS.weak ⟨od rfl, od rfl, od rfl, od rfl, od rfl, od rfl, trivial⟩⟩
    · rintro a w ⟨_, _, _, hk, _⟩; cases hk
    rintro K a w ⟨k_6, i_3, s_5, hk, hF_6, hS⟩
    obtain rfl := Nat.succ.inj hk
    refine wp_seq ?_
    refine st_reg mixed (by kernel_rfl) hS ?_
    refine sc (sg (sp_lss (od rfl) (od rfl))) ?_
    refine sn fun a w hS => ?_
    refine exit_then ?_
    refine wp_seq ?_
    refine st_cond hS rfl (fun hb => ?_) (fun hb => ?_)
    · refine wp_skip ?_
      refine exit_then ?_
      obtain ⟨k_6, o, rfl, h, hN_6, hL_6, hw_6⟩ := for_more hF_6 hb
      refine wp_seq ?_
      refine wp_block ?_
      refine wp_seq ?_
      obtain ⟨v_9, e_10, h⟩ := bind_some h
      refine st_reg mixed (by kernel_rfl) hS ?_
      refine sc (sg (sp_move (od rfl))) ?_
      refine sc (sg (sp_indexAddr sl27 (od rfl) (od rfl) e_10)) ?_
      refine sc (sg (sp_load ty3 (od rfl))) ?_
      refine sc (sg (sp_assign (od rfl))) ?_
      refine sc (sg (sp_assign (od rfl))) ?_
      refine sn fun a w hS => ?_
      refine exit_then ?_
      refine wp_seq ?_
      obtain ⟨v_11, e_12, h⟩ := bind_some h
      refine st_reg mixed (by kernel_rfl) hS ?_
      refine sc (sg (sp_move (od rfl))) ?_
      refine sc (sg (sp_lss (od rfl) (odi))) ?_
      refine sc (sg (sp_move (od rfl))) ?_
      refine sc (sgF rfl fun hG => sp_move (od rfl)) ?_
      refine sc (sgF rfl fun hG => sp_fieldAddr fd24_2 (od rfl)) ?_
      refine sc (sgF rfl fun hG => sp_load ty22 (odw rfl hG)) ?_
      refine sc (sgF rfl fun hG => sp_len Try.underlying22 (odw rfl hG)) ?_
      refine sc (sgF rfl fun hG => sp_geq (odw rfl hG) (odw rfl hG)) ?_
      refine sc (sg (sp_pickOr (od rfl) fun hg => odw rfl (not_t hg))) ?_
      refine sc (sg (sp_move (od rfl))) ?_
      refine sc (sgF rfl fun hG => sp_move (od rfl)) ?_
      refine sc (sgF rfl fun hG => sp_gtr (odw rfl hG) (odi)) ?_
      refine sc (sgF rfl fun hG => sp_move (odw rfl hG)) ?_
      refine sc (sgwT rfl fun hG => sp_move (od rfl)) ?_
      refine sc (sgwT rfl fun hG => sp_move (od rfl)) ?_
      refine sc (sgwT rfl fun hG => sp_sub (odw rfl hG) (odi)) ?_
      refine sc (sgwT rfl fun hG => sp_indexAddr sl27 (odw rfl hG) (odw rfl hG) (guard_some e_12 hG)) ?_
      refine sc (sgwT rfl fun hG => sp_load ty3 (odw rfl hG)) ?_
      refine sc (sgwT rfl fun hG => sp_move (od rfl)) ?_
      refine sc (sgwT rfl fun hG => sp_geq (odw rfl hG) (odw rfl hG)) ?_
      refine sc (sgF rfl fun hG => sp_pickAnd (odw rfl hG) fun hg => odw rfl (and_mk hG hg)) ?_
      refine sc (sg (sp_pickOr (od rfl) fun hg => odw rfl (not_t hg))) ?_
      refine sn fun a w hS => ?_
      refine exit_then ?_
      refine st_cond hS rfl (fun hb => ?_) (fun hb => ?_)
      · have h := ite_t hb h
        refine wp_seq ?_
        refine st_reg mixed (by kernel_rfl) hS ?_
        refine sc (sg (sp_assign (odi))) ?_
        refine sn fun a w hS => ?_
        refine exit_then ?_
        refine wp_ret ?_
        refine exit_blockR ?_
        refine exit_thenR ?_
        cases h
        obtain rfl := hL_6 _ rfl
        have h := (elim_leave hr_8)
        refine exit_thenR ?_
        refine exit_blockR ?_
        refine exit_thenR ?_
        cases h
        exact st_ret hS (run_results1 Try.results76 a w) (hS.get rfl)
      · have h := ite_f hb h
        refine wp_skip ?_
        refine exit_block ?_
        refine exit_then ?_
        refine st_reg mixed (by kernel_rfl) hS ?_
        refine sc (sg (sp_add (od rfl) (odi))) ?_
        refine sc (sg (sp_move (od rfl))) ?_
        refine sn fun a w hS => ?_
        cases h
        exact ⟨k_6, _, _, rfl, hN_6 _ rfl, hS.weak ⟨od rfl, od rfl, od rfl, od rfl, od rfl, od (congrArg (fun z => some (isV (α := Int) z)) hw_6), trivial⟩⟩
    · refine wp_exit ?_
      obtain rfl := for_done hF_6 hb
      have h := elim_again hr_8
      refine exit_thenE ?_
      refine exit_thenE ?_
      refine exit_here ?_
      refine exit_then ?_
      refine wp_seq ?_
      refine wp_seq ?_
      refine st_reg mixed (by kernel_rfl) hS ?_
      refine sc (sg (sp_fieldAddr fd106_0 (od rfl))) ?_
      refine sc (sg (sp_load ty27 (od rfl))) ?_
      refine sc (sg (sp_len Try.underlying27 (od rfl))) ?_
      refine sc (sg (sp_move (odi))) ?_
      refine sn fun a w hS => ?_
      refine exit_then ?_
      refine wp_block ?_
      obtain ⟨o_16, e_17, hr_18⟩ := bind_some h
      refine c_loop (fun K a w => ∃ k i_13 s_15, K = k + 1 ∧ ForI _ _ _ o_16 k i_13 s_15 ∧ St 79 F0 [] [(3, isA (α := S_api_Market) p0), (5, isA (α := S_keeper_numbers) p2), (50, isV (α := List Int) p2.1), (51, isV (α := Int) (p2.1.length : Int)), (52, isV (α := Int) i_13)] w0 a w) ?_ ?_ ⟨_, _, _, rfl, for_init e_17, hS.weak ⟨od rfl, od rfl, od rfl, od rfl, od rfl, trivial⟩⟩
      · rintro a w ⟨_, _, _, hk, _⟩; cases hk
      rintro K a w ⟨k_16, i_13, s_15, hk, hF_16, hS⟩
      obtain rfl := Nat.succ.inj hk
      refine wp_seq ?_
      refine st_reg mixed (by kernel_rfl) hS ?_
      refine sc (sg (sp_lss (od rfl) (od rfl))) ?_
      refine sn fun a w hS => ?_
      refine exit_then ?_
      refine wp_seq ?_
      refine st_cond hS rfl (fun hb => ?_) (fun hb => ?_)
      · refine wp_skip ?_
        refine exit_then ?_
        obtain ⟨k_16, o, rfl, h, hN_16, hL_16, hw_16⟩ := for_more hF_16 hb
        refine wp_seq ?_
        refine wp_block ?_
        refine wp_seq ?_
        obtain ⟨v_19, e_20, h⟩ := bind_some h
        refine st_reg mixed (by kernel_rfl) hS ?_
        refine sc (sg (sp_indexAddr sl27 (od rfl) (od rfl) e_20)) ?_
        refine sc (sg (sp_load ty3 (od rfl))) ?_
        refine sc (sg (sp_assign (od rfl))) ?_
        refine sn fun a w hS => ?_
        refine exit_then ?_
        refine wp_seq ?_
        refine st_reg mixed (by kernel_rfl) hS ?_
        refine sc (sg (sp_move (od rfl))) ?_
        refine sc (sg (sp_lss (od rfl) (odi))) ?_
        refine sc (sg (sp_move (od rfl))) ?_
        refine sc (sgF rfl fun hG => sp_move (od rfl)) ?_
        refine sc (sgF rfl fun hG => sp_fieldAddr fd24_0 (od rfl)) ?_
        refine sc (sgF rfl fun hG => sp_load ty3 (odw rfl hG)) ?_
        refine sc (sgF rfl fun hG => sp_geq (odw rfl hG) (odw rfl hG)) ?_
        refine sc (sg (sp_pickOr (od rfl) fun hg => odw rfl (not_t hg))) ?_
        refine sn fun a w hS => ?_
        refine exit_then ?_
        refine st_cond hS rfl (fun hb => ?_) (fun hb => ?_)
        · have h := ite_t hb h
          refine wp_seq ?_
          refine st_reg mixed (by kernel_rfl) hS ?_
          refine sc (sg (sp_assign (odi))) ?_
          refine sn fun a w hS => ?_
          refine exit_then ?_
          refine wp_ret ?_
          refine exit_blockR ?_
          refine exit_thenR ?_
          cases h
          obtain rfl := hL_16 _ rfl
          have h := (elim_leave hr_18)
          refine exit_thenR ?_
          refine exit_blockR ?_
          refine exit_thenR ?_
          cases h
          exact st_ret hS (run_results1 Try.results76 a w) (hS.get rfl)
        · have h := ite_f hb h
          refine wp_skip ?_
          refine exit_block ?_
          refine exit_then ?_
          refine st_reg mixed (by kernel_rfl) hS ?_
          refine sc (sg (sp_add (od rfl) (odi))) ?_
          refine sc (sg (sp_move (od rfl))) ?_
          refine sn fun a w hS => ?_
          cases h
          exact ⟨k_16, _, _, rfl, hN_16 _ rfl, hS.weak ⟨od rfl, od rfl, od rfl, od rfl, od (congrArg (fun z => some (isV (α := Int) z)) hw_16), trivial⟩⟩
      · refine wp_exit ?_
        obtain rfl := for_done hF_16 hb
        have h := elim_again hr_18
        refine exit_thenE ?_
        refine exit_thenE ?_
        refine exit_here ?_
        refine exit_then ?_
        refine wp_seq ?_
        refine wp_seq ?_
        refine st_reg mixed (by kernel_rfl) hS ?_
        refine sc (sg (sp_fieldAddr fd106_1 (od rfl))) ?_
        refine sc (sg (sp_load ty27 (od rfl))) ?_
        refine sc (sg (sp_len Try.underlying27 (od rfl))) ?_
        refine sc (sg (sp_move (odi))) ?_
        refine sn fun a w hS => ?_
        refine exit_then ?_
        refine wp_block ?_
        obtain ⟨o_24, e_25, hr_26⟩ := bind_some h
        refine c_loop (fun K a w => ∃ k i_21 s_23, K = k + 1 ∧ ForI _ _ _ o_24 k i_21 s_23 ∧ St 79 F0 [] [(66, isV (α := List Int) p2.2), (67, isV (α := Int) (p2.2.length : Int)), (68, isV (α := Int) i_21)] w0 a w) ?_ ?_ ⟨_, _, _, rfl, for_init e_25, hS.weak ⟨od rfl, od rfl, od rfl, trivial⟩⟩
        · rintro a w ⟨_, _, _, hk, _⟩; cases hk
        rintro K a w ⟨k_24, i_21, s_23, hk, hF_24, hS⟩
        obtain rfl := Nat.succ.inj hk
        refine wp_seq ?_
        refine st_reg mixed (by kernel_rfl) hS ?_
        refine sc (sg (sp_lss (od rfl) (od rfl))) ?_
        refine sn fun a w hS => ?_
        refine exit_then ?_
        refine wp_seq ?_
        refine st_cond hS rfl (fun hb => ?_) (fun hb => ?_)
        · refine wp_skip ?_
          refine exit_then ?_
          obtain ⟨k_24, o, rfl, h, hN_24, hL_24, hw_24⟩ := for_more hF_24 hb
          refine wp_seq ?_
          refine wp_block ?_
          refine wp_seq ?_
          obtain ⟨v_27, e_28, h⟩ := bind_some h
          refine st_reg mixed (by kernel_rfl) hS ?_
          refine sc (sg (sp_indexAddr sl27 (od rfl) (od rfl) e_28)) ?_
          refine sc (sg (sp_load ty3 (od rfl))) ?_
          refine sc (sg (sp_assign (od rfl))) ?_
          refine sn fun a w hS => ?_
          refine exit_then ?_
          refine wp_seq ?_
          refine st_reg mixed (by kernel_rfl) hS ?_
          refine sc (sg (sp_move (od rfl))) ?_
          refine sc (sg (sp_lss (od rfl) (odi))) ?_
          refine sc (sg (sp_move (od rfl))) ?_
          refine sc (sgF rfl fun hG => sp_move (od rfl)) ?_
          refine sc (sgF rfl fun hG => sp_gtr (odw rfl hG) (odi)) ?_
          refine sc (sg (sp_pickOr (od rfl) fun hg => odw rfl (not_t hg))) ?_
          refine sn fun a w hS => ?_
          refine exit_then ?_
          refine st_cond hS rfl (fun hb => ?_) (fun hb => ?_)
          · have h := ite_t hb h
            refine wp_seq ?_
            refine st_reg mixed (by kernel_rfl) hS ?_
            refine sc (sg (sp_assign (odi))) ?_
            refine sn fun a w hS => ?_
            refine exit_then ?_
            refine wp_ret ?_
            refine exit_blockR ?_
            refine exit_thenR ?_
            cases h
            obtain rfl := hL_24 _ rfl
            have h := (elim_leave hr_26)
            refine exit_thenR ?_
            refine exit_blockR ?_
            refine exit_thenR ?_
            cases h
            exact st_ret hS (run_results1 Try.results76 a w) (hS.get rfl)
          · have h := ite_f hb h
            refine wp_skip ?_
            refine exit_block ?_
            refine exit_then ?_
            refine st_reg mixed (by kernel_rfl) hS ?_
            refine sc (sg (sp_add (od rfl) (odi))) ?_
            refine sc (sg (sp_move (od rfl))) ?_
            refine sn fun a w hS => ?_
            cases h
            exact ⟨k_24, _, _, rfl, hN_24 _ rfl, hS.weak ⟨od rfl, od rfl, od (congrArg (fun z => some (isV (α := Int) z)) hw_24), trivial⟩⟩
        · refine wp_exit ?_
          obtain rfl := for_done hF_24 hb
          have h := elim_again hr_26
          refine exit_thenE ?_
          refine exit_thenE ?_
          refine exit_here ?_
          refine exit_then ?_
          refine wp_seq ?_
          refine st_reg mixed (by kernel_rfl) hS ?_
          refine sc (sg (sp_assign (odi))) ?_
          refine sn fun a w hS => ?_
          refine exit_then ?_
          refine wp_ret ?_
          cases h
          exact st_ret hS (run_results1 Try.results76 a w) (hS.get rfl)

theorem f92_ok {p0 : List Int} {r : Int} (h : M.f92 p0 = some r) : CallOK Try.prog 92 [isV p0] (isV r) := by
  unfold M.f92 at h
  refine callS_of Try.func92 rfl Try.ntmps92 rfl fun F0 w0 a hS => ?_
  refine wp_seq ?_
  refine st_reg mixed (by kernel_rfl) hS ?_
  refine sc (sg (sp_assign (odi))) ?_
  refine sn fun a w hS => ?_
  refine exit_then ?_
  refine wp_seq ?_
  refine wp_seq ?_
  refine st_reg mixed (by kernel_rfl) hS ?_
  refine sc (sg (sp_move (od rfl))) ?_
  refine sc (sg (sp_len Try.underlying27 (od rfl))) ?_
  refine sc (sg (sp_move (odi))) ?_
  refine sn fun a w hS => ?_
  refine exit_then ?_
  refine wp_block ?_
  obtain ⟨o_4, e_5, hr_6⟩ := bind_some h
  refine c_loop (fun K a w => ∃ k i_1 s_3, K = k + 1 ∧ ForT _ _ _ o_4 k i_1 s_3 ∧ St 17 F0 [] [(2, isV (α := Int) s_3), (5, isV (α := List Int) p0), (6, isV (α := Int) (p0.length : Int)), (7, isV (α := Int) i_1)] w0 a w) ?_ ?_ ⟨_, _, _, rfl, fors_init e_5, hS.weak ⟨od rfl, od rfl, od rfl, od rfl, trivial⟩⟩
  · rintro a w ⟨_, _, _, hk, _⟩; cases hk
  rintro K a w ⟨k_4, i_1, s_3, hk, hF_4, hS⟩
  obtain rfl := Nat.succ.inj hk
  refine wp_seq ?_
  refine st_reg mixed (by kernel_rfl) hS ?_
  refine sc (sg (sp_lss (od rfl) (od rfl))) ?_
  refine sn fun a w hS => ?_
  refine exit_then ?_
  refine wp_seq ?_
  refine st_cond hS rfl (fun hb => ?_) (fun hb => ?_)
  · refine wp_skip ?_
    refine exit_then ?_
    obtain ⟨k_4, s', rfl, h, hF_4, hw_4⟩ := fors_more hF_4 hb
    refine wp_seq ?_
    refine wp_block ?_
    refine wp_seq ?_
    obtain ⟨v_7, e_8, h⟩ := bind_some h
    refine st_reg mixed (by kernel_rfl) hS ?_
    refine sc (sg (sp_indexAddr sl27 (od rfl) (od rfl) e_8)) ?_
    refine sc (sg (sp_load ty3 (od rfl))) ?_
    refine sc (sg (sp_assign (od rfl))) ?_
    refine sn fun a w hS => ?_
    refine exit_then ?_
    obtain ⟨v_9, e_10, h⟩ := bind_some h
    refine st_reg mixed (by kernel_rfl) hS ?_
    refine sc (sg (sp_move (od rfl))) ?_
    refine sc (sg (sp_move (od rfl))) ?_
    refine sc (sg (sp_shl (odi) (od rfl) e_10)) ?_
    refine sc (sg (sp_or (od rfl) (od rfl))) ?_
    refine sc (sg (sp_assign (od rfl))) ?_
    refine sn fun a w hS => ?_
    refine exit_block ?_
    refine exit_then ?_
    refine st_reg mixed (by kernel_rfl) hS ?_
    refine sc (sg (sp_add (od rfl) (odi))) ?_
    refine sc (sg (sp_move (od rfl))) ?_
    refine sn fun a w hS => ?_
    cases h
    exact ⟨k_4, _, _, rfl, hF_4, hS.weak ⟨od rfl, od rfl, od rfl, od (congrArg (fun z => some (isV (α := Int) z)) hw_4), trivial⟩⟩
  · refine wp_exit ?_
    obtain rfl := (fors_done hF_4 hb).symm
    have h := hr_6
    refine exit_thenE ?_
    refine exit_thenE ?_
    refine exit_here ?_
    refine exit_then ?_
    refine wp_seq ?_
    refine st_reg mixed (by kernel_rfl) hS ?_
    refine sc (sg (sp_move (od rfl))) ?_
    refine sc (sg (sp_assign (od rfl))) ?_
    refine sn fun a w hS => ?_
    refine exit_then ?_
    refine wp_ret ?_
    cases h
    exact st_ret hS (run_results1 Try.results92 a w) (hS.get rfl)

theorem f109_ok {p0 : Int} {r : (List (List Int))} (h : M.f109 p0 = some r) : CallI Try.prog 109 [isV p0] (resTab 27 3 r) := by
  unfold M.f109 at h
  refine callI_of Try.func109 rfl Try.ntmps109 rfl fun F0 w0 a hS => ?_
  refine wp_seq ?_
  refine st_reg mixed (by kernel_rfl) hS ?_
  refine sc (sg (sp_assign (odnil (α := List Int)))) ?_
  refine sn fun a w hS => ?_
  refine exit_then ?_
  refine wp_seq ?_
  obtain ⟨q_1, e_2, h⟩ := bind_some h
  refine l_start ?_
  refine s_c hS (sg (sp_move (od rfl))) rfl fun a w hS hM => ?_
  refine s_makeT (E := 3) sl112 ze27 zv27 hS (od rfl) e_2 rfl fun a w u_3 hS hM => ?_
  have hS : St _ F0 [Item.tab (α := Int) 27 3 u_3 (ob u_3) (List.replicate (List.length q_1) (.slice none 0 0)) q_1] _ w0 _ _ := hS
  refine s_c hS (sg (sp_assign (od rfl))) rfl fun a w hS hM => ?_
  refine l_end ?_
  refine exit_then ?_
  refine wp_seq ?_
  refine wp_seq ?_
  refine st_reg mixed (by kernel_rfl) hS ?_
  refine sc (sg (sp_move (od rfl))) ?_
  refine sc (sg (sp_move (odi))) ?_
  refine sn fun a w hS => ?_
  refine exit_then ?_
  refine wp_block ?_
  obtain ⟨o_7, e_8, hr_9⟩ := bind_some h
  refine c_loop (fun K a w => ∃ k i_4 s_6, ∃ o_10 : Nat → Bool, ∃ rs_11 : List Value, K = k + 1 ∧ ForT _ _ _ o_7 k i_4 s_6 ∧ St 30 F0 [Item.tab (α := Int) 27 3 u_3 o_10 rs_11 s_6] [(0, isV (α := Int) p0), (3, Pr.is u_3), (8, isV (α := Int) p0), (9, isV (α := Int) i_4)] w0 a w) ?_ ?_ ⟨_, _, _, (ob u_3), (List.replicate (List.length q_1) (.slice none 0 0)), rfl, fors_init e_8, hS.weak ⟨od rfl, od rfl, od rfl, od rfl, trivial⟩⟩
  · rintro a w ⟨_, _, _, _, _, hk, _⟩; cases hk
  rintro K a w ⟨k_7, i_4, s_6, o_10, rs_11, hk, hF_7, hS⟩
  obtain rfl := Nat.succ.inj hk
  refine wp_seq ?_
  refine st_reg mixed (by kernel_rfl) hS ?_
  refine sc (sg (sp_lss (od rfl) (od rfl))) ?_
  refine sn fun a w hS => ?_
  refine exit_then ?_
  refine wp_seq ?_
  refine st_cond hS rfl (fun hb => ?_) (fun hb => ?_)
  · refine wp_skip ?_
    refine exit_then ?_
    obtain ⟨k_7, s', rfl, h, hF_7, hw_7⟩ := fors_more hF_7 hb
    refine wp_seq ?_
    refine wp_block ?_
    refine wp_seq ?_
    refine st_reg mixed (by kernel_rfl) hS ?_
    refine sc (sg (sp_move (od rfl))) ?_
    refine sc (sg (sp_assign (od rfl))) ?_
    refine sn fun a w hS => ?_
    refine exit_then ?_
    refine wp_seq ?_
    obtain ⟨q_12, e_13, h⟩ := bind_some h
    obtain ⟨v_15, e_16, h⟩ := bind_some h
    obtain ⟨z_17, e_18, h⟩ := bind_some h
    refine l_start ?_
    refine s_c hS (sg (sp_move (od rfl))) rfl fun a w hS hM => ?_
    refine s_c hS (sg (sp_move (od rfl))) rfl fun a w hS hM => ?_
    refine s_c hS (sg (sp_move (od rfl))) rfl fun a w hS hM => ?_
    refine s_make sl27 ze3 zi3 rfl hS (od rfl) e_13 rfl fun a w u_14 hS hM => ?_
    have hS : St _ F0 [Item.tab (α := Int) 27 3 u_3 o_10 rs_11 s_6, Item.sl (α := Int) 3 u_14 q_12] _ w0 _ _ := hS
    have hS := st_tab 0 3 hS rfl rfl
    have hS := st_tab 0 12 hS rfl rfl
    refine s_c hS (sg (sp_indexAddrT Try.underlying112 sz27 (od rfl) (od rfl) e_16)) rfl fun a w hS hM => ?_
    have hS := st_hole 0 i_4.toNat hS rfl
    refine s_storeH (k := 0) (k2 := 1) (i := i_4) (Δ := [(0, isV (α := Int) p0), (3, Pr.is u_3), (4, isV (α := Int) i_4), (8, isV (α := Int) p0), (9, isV (α := Int) i_4), (15, Pr.is u_14), (16, isTP u_3 i_4.toNat)]) Try.underlying27 sz27 hS rfl rfl rfl ⟨od rfl, odTab rfl, od rfl, od rfl, od rfl, od rfl, odTP rfl, trivial⟩ ⟨fun _ _ _ _ h => h, fun _ _ _ _ h => h, fun _ _ _ _ h => h, fun _ _ _ _ h => h, fun _ _ _ _ h => h, fun _ _ _ _ h => h, fun _ _ _ _ h => h, trivial⟩ (odTP rfl) (od rfl) e_18 fun w o_19 hS hM => ?_
    have hS : St _ F0 [Item.tab (α := Int) 27 3 u_3 o_19 (List.set rs_11 i_4.toNat u_14) z_17] _ w0 _ _ := hS
    refine l_end ?_
    refine exit_then ?_
    refine wp_seq ?_
    refine st_reg mixed (by kernel_rfl) hS ?_
    refine sc (sg (sp_move (od rfl))) ?_
    refine sc (sg (sp_move (odi))) ?_
    refine sn fun a w hS => ?_
    refine exit_then ?_
    refine wp_block ?_
    obtain ⟨o_23, e_24, hr_25⟩ := bind_some h
    refine c_loop (fun K a w => ∃ k i_20 s_22, K = k + 1 ∧ ForT _ _ _ o_23 k i_20 s_22 ∧ St 30 F0 [Item.tab (α := Int) 27 3 u_3 o_19 (List.set rs_11 i_4.toNat u_14) s_22] [(0, isV (α := Int) p0), (3, Pr.is u_3), (4, isV (α := Int) i_4), (8, isV (α := Int) p0), (9, isV (α := Int) i_4), (17, isV (α := Int) p0), (18, isV (α := Int) i_20)] w0 a w) ?_ ?_ ⟨_, _, _, rfl, fors_init e_24, hS.weak ⟨od rfl, od rfl, od rfl, od rfl, od rfl, od rfl, od rfl, trivial⟩⟩
    · rintro a w ⟨_, _, _, hk, _⟩; cases hk
    rintro K a w ⟨k_23, i_20, s_22, hk, hF_23, hS⟩
    obtain rfl := Nat.succ.inj hk
    refine wp_seq ?_
    refine st_reg mixed (by kernel_rfl) hS ?_
    refine sc (sg (sp_lss (od rfl) (od rfl))) ?_
    refine sn fun a w hS => ?_
    refine exit_then ?_
    refine wp_seq ?_
    refine st_cond hS rfl (fun hb => ?_) (fun hb => ?_)
    · refine wp_skip ?_
      refine exit_then ?_
      obtain ⟨k_23, s', rfl, h, hF_23, hw_23⟩ := fors_more hF_23 hb
      refine wp_seq ?_
      refine wp_block ?_
      refine wp_seq ?_
      refine st_reg mixed (by kernel_rfl) hS ?_
      refine sc (sg (sp_move (od rfl))) ?_
      refine sc (sg (sp_assign (od rfl))) ?_
      refine sn fun a w hS => ?_
      refine exit_then ?_
      obtain ⟨v_26, e_27, h⟩ := bind_some h
      obtain ⟨v_28, e_29, h⟩ := bind_some h
      obtain ⟨z_30, e_31, h⟩ := bind_some h
      refine l_start ?_
      refine s_c hS (sg (sp_move (od rfl))) rfl fun a w hS hM => ?_
      refine s_c hS (sg (sp_move (od rfl))) rfl fun a w hS hM => ?_
      have hS := st_tab 0 3 hS rfl rfl
      have hS := st_tab 0 21 hS rfl rfl
      refine s_c hS (sg (sp_indexAddrT Try.underlying112 sz27 (od rfl) (od rfl) e_27)) rfl fun a w hS hM => ?_
      refine s_c hS (sg (sp_loadTR Try.underlying27 (od rfl))) rfl fun a w hS hM => ?_
      refine s_c hS (sg (sp_move (od rfl))) rfl fun a w hS hM => ?_
      refine s_c hS (sg (sp_indexAddrTA sl27 (od rfl) (od rfl) e_29)) rfl fun a w hS hM => ?_
      refine s_storeTA (k := 0) (i := i_4) (j := i_20) (Δ := [(0, isV (α := Int) p0), (3, Pr.is u_3), (4, isV (α := Int) i_4), (8, isV (α := Int) p0), (9, isV (α := Int) i_4), (17, isV (α := Int) p0), (18, isV (α := Int) i_20), (26, isHA Int (List.set rs_11 i_4.toNat u_14) i_4.toNat i_20.toNat)]) ty3 hS rfl ⟨od rfl, odTab rfl, od rfl, od rfl, od rfl, od rfl, od rfl, odHA rfl, trivial⟩ ⟨fun _ _ _ _ h => h, fun _ _ _ _ h => h, fun _ _ _ _ h => h, fun _ _ _ _ h => h, fun _ _ _ _ h => h, fun _ _ _ _ h => h, fun _ _ _ _ h => h, fun _ _ _ _ h => h, trivial⟩ (odHA rfl) (odi) e_31 fun w hS hM => ?_
      have hS : St _ F0 [Item.tab (α := Int) 27 3 u_3 o_19 (List.set rs_11 i_4.toNat u_14) z_30] _ w0 _ _ := hS
      refine l_end ?_
      refine exit_block ?_
      refine exit_then ?_
      refine st_reg mixed (by kernel_rfl) hS ?_
      refine sc (sg (sp_add (od rfl) (odi))) ?_
      refine sc (sg (sp_move (od rfl))) ?_
      refine sn fun a w hS => ?_
      cases h
      exact ⟨k_23, _, _, rfl, hF_23, hS.weak ⟨od rfl, od rfl, od rfl, od rfl, od rfl, od rfl, od (congrArg (fun z => some (isV (α := Int) z)) hw_23), trivial⟩⟩
    · refine wp_exit ?_
      obtain rfl := (fors_done hF_23 hb).symm
      have h := hr_25
      refine exit_thenE ?_
      refine exit_thenE ?_
      refine exit_here ?_
      refine exit_block ?_
      refine exit_then ?_
      refine st_reg mixed (by kernel_rfl) hS ?_
      refine sc (sg (sp_add (od rfl) (odi))) ?_
      refine sc (sg (sp_move (od rfl))) ?_
      refine sn fun a w hS => ?_
      cases h
      exact ⟨k_7, _, _, o_19, (List.set rs_11 i_4.toNat u_14), rfl, hF_7, hS.weak ⟨od rfl, od rfl, od rfl, od (congrArg (fun z => some (isV (α := Int) z)) hw_7), trivial⟩⟩
  · refine wp_exit ?_
    obtain rfl := (fors_done hF_7 hb).symm
    have h := hr_9
    refine exit_thenE ?_
    refine exit_thenE ?_
    refine exit_here ?_
    refine exit_then ?_
    refine wp_seq ?_
    refine st_reg mixed (by kernel_rfl) hS ?_
    refine sc (sg (sp_move (od rfl))) ?_
    refine sc (sg (sp_assign (od rfl))) ?_
    refine sn fun a w hS => ?_
    refine exit_then ?_
    refine wp_ret ?_
    cases h
    exact st_retI 0 (o_10, rs_11) hS ((run_results1 Try.results109 a w).trans (congrArg (fun v => Result.ok v w) (hS.get (t := 2) rfl))) rfl

theorem f118_ok {p0 : Int} {r : (List Int)} (h : M.f118 p0 = some r) : CallOK Try.prog 118 [isV p0] (isV r) := by
  unfold M.f118 at h
  refine callS_of Try.func118 rfl Try.ntmps118 rfl fun F0 w0 a hS => ?_
  refine wp_seq ?_
  refine st_reg mixed (by kernel_rfl) hS ?_
  refine sc (sg (sp_assign (φ := Pr.is (.slice none 0 0)) (odc fun _ => rfl))) ?_
  refine sn fun a w hS => ?_
  have hS := st_nil (α := Int) 3 hS
  have hS : St _ F0 [Item.sl (α := Int) 3 (.slice none 0 0) ([] : List Int)] _ w0 _ _ := hS
  refine exit_then ?_
  refine wp_seq ?_
  refine wp_seq ?_
  refine st_reg mixed (by kernel_rfl) hS ?_
  refine sc (sg (sp_move (odi))) ?_
  refine sn fun a w hS => ?_
  refine exit_then ?_
  refine wp_block ?_
  obtain ⟨o_4, e_5, hr_6⟩ := bind_some h
  refine c_loop (fun K a w => ∃ k i_1 s_3, ∃ u_7 : Value, K = k + 1 ∧ ForT _ _ _ o_4 k i_1 s_3 ∧ St 18 F0 [Item.sl (α := Int) 3 u_7 s_3] [(0, isV (α := Int) p0), (2, Pr.is u_7), (4, isV (α := Int) i_1)] w0 a w) ?_ ?_ ⟨_, _, _, (.slice none 0 0), rfl, fors_init e_5, hS.weak ⟨od rfl, od rfl, od rfl, trivial⟩⟩
  · rintro a w ⟨_, _, _, _, hk, _⟩; cases hk
  rintro K a w ⟨k_4, i_1, s_3, u_7, hk, hF_4, hS⟩
  obtain rfl := Nat.succ.inj hk
  refine wp_seq ?_
  refine st_reg mixed (by kernel_rfl) hS ?_
  refine sc (sg (sp_lss (od rfl) (odi))) ?_
  refine sn fun a w hS => ?_
  refine exit_then ?_
  refine wp_seq ?_
  refine st_cond hS rfl (fun hb => ?_) (fun hb => ?_)
  · refine wp_skip ?_
    refine exit_then ?_
    obtain ⟨k_4, s', rfl, h, hF_4, hw_4⟩ := fors_more hF_4 hb
    refine wp_seq ?_
    refine wp_block ?_
    refine wp_seq ?_
    refine st_reg mixed (by kernel_rfl) hS ?_
    refine sc (sg (sp_move (od rfl))) ?_
    refine sc (sg (sp_assign (od rfl))) ?_
    refine sn fun a w hS => ?_
    refine exit_then ?_
    refine wp_seq ?_
    obtain ⟨v_8, e_9, h⟩ := bind_some h
    refine st_reg mixed (by kernel_rfl) hS ?_
    refine sc (sg (sp_move (od rfl))) ?_
    refine sc (sg (sp_move (od rfl))) ?_
    refine sc (sg (sp_shr (od rfl) (od rfl) e_9)) ?_
    refine sc (sg (sp_and (od rfl) (odi))) ?_
    refine sc (sg (sp_eql (od rfl) (odi))) ?_
    refine sn fun a w hS => ?_
    refine exit_then ?_
    obtain ⟨y_11, hj_10, h⟩ := bind_some h
    refine wp_mono (Q := fun e a w => e = Exit.normal ∧ ∃ u_12 : Value, St 18 F0 [Item.sl (α := Int) 3 u_12 y_11] [(0, isV (α := Int) p0), (2, Pr.is u_12), (4, isV (α := Int) i_1)] w0 a w) ?_ ?_
    · refine st_cond hS rfl (fun hb => ?_) (fun hb => ?_)
      · have h := ite_t hb hj_10
        obtain ⟨z_13, e_14, h⟩ := bind_some h
        refine l_start ?_
        refine s_c hS (sg (sp_move (od rfl))) rfl fun a w hS hM => ?_
        refine s_c hS (sg (sp_move (od rfl))) rfl fun a w hS hM => ?_
        refine s_c hS (sg (sp_buildSlice [.tmp 13] ([i_1] : List Int) sl27 ze3 rfl rfl rfl rfl ⟨od rfl, trivial⟩)) rfl fun a w hS hM => ?_
        refine s_append (k := 0) (Δ := [(0, isV (α := Int) p0), (4, isV (α := Int) i_1), (12, Pr.is u_7), (14, isV (α := List Int) ([i_1] : List Int))]) sl27 ze3 hS rfl ⟨od rfl, od rfl, od rfl, od rfl, trivial⟩ ⟨fun _ _ _ _ h => h, fun _ _ _ _ h => h, fun _ _ _ _ h => h, fun _ _ _ _ h => h, trivial⟩ (od rfl) (od rfl) e_14 rfl fun a w u_15 hS hM => ?_
        have hS : St _ F0 [Item.sl (α := Int) 3 u_15 z_13] _ w0 _ _ := hS
        refine s_c hS (sg (sp_assign (od rfl))) rfl fun a w hS hM => ?_
        refine l_end ?_
        cases h
        exact ⟨rfl, u_15, hS.weak ⟨od rfl, od rfl, od rfl, trivial⟩⟩
      · have h := ite_f hb hj_10
        refine wp_skip ?_
        cases h
        exact ⟨rfl, u_7, hS.weak ⟨od rfl, od rfl, od rfl, trivial⟩⟩
    rintro e a w ⟨rfl, u_12, hS⟩
    refine exit_block ?_
    refine exit_then ?_
    refine st_reg mixed (by kernel_rfl) hS ?_
    refine sc (sg (sp_add (od rfl) (odi))) ?_
    refine sc (sg (sp_move (od rfl))) ?_
    refine sn fun a w hS => ?_
    cases h
    exact ⟨k_4, _, _, u_12, rfl, hF_4, hS.weak ⟨od rfl, od rfl, od (congrArg (fun z => some (isV (α := Int) z)) hw_4), trivial⟩⟩
  · refine wp_exit ?_
    obtain rfl := (fors_done hF_4 hb).symm
    have h := hr_6
    refine exit_thenE ?_
    refine exit_thenE ?_
    refine exit_here ?_
    refine exit_then ?_
    refine wp_seq ?_
    refine st_reg mixed (by kernel_rfl) hS ?_
    refine sc (sg (sp_move (od rfl))) ?_
    refine sc (sg (sp_assign (od rfl))) ?_
    refine sn fun a w hS => ?_
    refine exit_then ?_
    refine wp_ret ?_
    have hS0 := hS
    have hS := st_freeze 0 2 hS rfl rfl
    have hS := st_also (t := 2) (q := 17) hS0 hS rfl rfl rfl
    cases h
    exact st_ret hS (run_results1 Try.results118 a w) (hS.get rfl)

theorem f113_ok {p0 : S_api_Market} {p1 : Int} {r : (List (List Int))} (h : M.f113 p0 p1 = some r) : CallI Try.prog 113 [isV p0, isV p1] (resTab 27 3 r) := by
  unfold M.f113 at h
  refine callI_of Try.func113 rfl Try.ntmps113 rfl fun F0 w0 a hS => ?_
  refine wp_seq ?_
  refine st_reg mixed (by kernel_rfl) hS ?_
  refine sc (sg (sp_box (od rfl))) ?_
  refine sc (sg (sp_assign (odnil (α := List Int)))) ?_
  refine sn fun a w hS => ?_
  refine exit_then ?_
  refine wp_seq ?_
  obtain ⟨m_1, e_2, h⟩ := bind_some h
  refine l_start ?_
  refine s_c hS (sg (sp_fieldAddr fd24_0 (od rfl))) rfl fun a w hS hM => ?_
  refine s_c hS (sg (sp_load ty3 (od rfl))) rfl fun a w hS hM => ?_
  refine s_callI en109 (f109_ok e_2) hS ⟨od rfl, trivial⟩ rfl fun a w u_3 x_4 hS hM => ?_
  have hS : St _ F0 [Item.tab (α := Int) 27 3 u_3 x_4.1 x_4.2 m_1] _ w0 _ _ := hS
  refine s_c hS (sg (sp_assign (od rfl))) rfl fun a w hS hM => ?_
  refine l_end ?_
  refine exit_then ?_
  refine wp_seq ?_
  obtain ⟨m_5, e_6, h⟩ := bind_some h
  refine l_start ?_
  refine s_c hS (sg (sp_fieldAddr fd24_1 (od rfl))) rfl fun a w hS hM => ?_
  refine s_c hS (sg (sp_load ty22 (od rfl))) rfl fun a w hS hM => ?_
  refine s_callI en128 (f128_ok e_6) hS ⟨od rfl, trivial⟩ rfl fun a w u_7 x_8 hS hM => ?_
  have hS : St _ F0 [Item.tab (α := Int) 27 3 u_3 x_4.1 x_4.2 m_1, Item.sl (α := S_api_Offer) 59 u_7 m_5] _ w0 _ _ := hS
  refine s_c hS (sg (sp_assign (od rfl))) rfl fun a w hS hM => ?_
  refine l_end ?_
  refine exit_then ?_
  refine wp_seq ?_
  refine wp_seq ?_
  obtain ⟨v_9, e_10, h⟩ := bind_some h
  refine st_reg mixed (by kernel_rfl) hS ?_
  refine sc (sg (sp_move (od rfl))) ?_
  refine sc (sg (sp_call en118 (f118_ok e_10) ⟨od rfl, trivial⟩)) ?_
  refine sc (sg (sp_len Try.underlying27 (od rfl))) ?_
  refine sc (sg (sp_move (odi))) ?_
  refine sn fun a w hS => ?_
  refine exit_then ?_
  refine wp_block ?_
  obtain ⟨o_14, e_15, hr_16⟩ := bind_some h
  refine c_loop (fun K a w => ∃ k i_11 s_13, ∃ u_17 : Value, K = k + 1 ∧ ForT _ _ _ o_14 k i_11 s_13 ∧ St 72 F0 [Item.tab (α := Int) 27 3 u_3 x_4.1 x_4.2 m_1, Item.sl (α := S_api_Offer) 59 u_17 s_13] [(2, isA (α := S_api_Market) p0), (5, Pr.is u_3), (6, Pr.is u_17), (19, isV (α := List Int) v_9), (20, isV (α := Int) (v_9.length : Int)), (21, isV (α := Int) i_11)] w0 a w) ?_ ?_ ⟨_, _, _, u_7, rfl, fors_init e_15, hS.weak ⟨od rfl, od rfl, od rfl, od rfl, od rfl, od rfl, trivial⟩⟩
  · rintro a w ⟨_, _, _, _, hk, _⟩; cases hk
  rintro K a w ⟨k_14, i_11, s_13, u_17, hk, hF_14, hS⟩
  obtain rfl := Nat.succ.inj hk
  refine wp_seq ?_
  refine st_reg mixed (by kernel_rfl) hS ?_
  refine sc (sg (sp_lss (od rfl) (od rfl))) ?_
  refine sn fun a w hS => ?_
  refine exit_then ?_
  refine wp_seq ?_
  refine st_cond hS rfl (fun hb => ?_) (fun hb => ?_)
  · refine wp_skip ?_
    refine exit_then ?_
    obtain ⟨k_14, s', rfl, h, hF_14, hw_14⟩ := fors_more hF_14 hb
    refine wp_seq ?_
    refine wp_block ?_
    refine wp_seq ?_
    obtain ⟨v_18, e_19, h⟩ := bind_some h
    refine st_reg mixed (by kernel_rfl) hS ?_
    refine sc (sg (sp_indexAddr sl27 (od rfl) (od rfl) e_19)) ?_
    refine sc (sg (sp_load ty3 (od rfl))) ?_
    refine sc (sg (sp_assign (od rfl))) ?_
    refine sn fun a w hS => ?_
    refine exit_then ?_
    obtain ⟨v_20, e_21, h⟩ := bind_some h
    obtain ⟨z_22, e_23, h⟩ := bind_some h
    refine l_start ?_
    refine s_c hS (sg (sp_move (od rfl))) rfl fun a w hS hM => ?_
    refine s_c hS (sg (sp_fieldAddr fd24_2 (od rfl))) rfl fun a w hS hM => ?_
    refine s_c hS (sg (sp_load ty22 (od rfl))) rfl fun a w hS hM => ?_
    refine s_c hS (sg (sp_move (od rfl))) rfl fun a w hS hM => ?_
    refine s_c hS (sg (sp_indexAddr sl22 (od rfl) (od rfl) e_21)) rfl fun a w hS hM => ?_
    refine s_c hS (sg (sp_load ty59 (od rfl))) rfl fun a w hS hM => ?_
    refine s_c hS (sg (sp_buildSlice [.tmp 30] ([v_20] : List S_api_Offer) sl22 ze59 rfl rfl rfl rfl ⟨od rfl, trivial⟩)) rfl fun a w hS hM => ?_
    refine s_append (k := 1) (Δ := [(2, isA (α := S_api_Market) p0), (5, Pr.is u_3), (19, isV (α := List Int) v_9), (20, isV (α := Int) (v_9.length : Int)), (21, isV (α := Int) i_11), (25, Pr.is u_17), (31, isV (α := List S_api_Offer) ([v_20] : List S_api_Offer))]) sl22 ze59 hS rfl ⟨od rfl, od rfl, od rfl, od rfl, od rfl, od rfl, od rfl, trivial⟩ ⟨fun _ _ _ _ h => h, fun _ _ _ _ h => h, fun _ _ _ _ h => h, fun _ _ _ _ h => h, fun _ _ _ _ h => h, fun _ _ _ _ h => h, fun _ _ _ _ h => h, trivial⟩ (od rfl) (od rfl) e_23 rfl fun a w u_24 hS hM => ?_
    have hS : St _ F0 [Item.tab (α := Int) 27 3 u_3 x_4.1 x_4.2 m_1, Item.sl (α := S_api_Offer) 59 u_24 z_22] _ w0 _ _ := hS
    refine s_c hS (sg (sp_assign (od rfl))) rfl fun a w hS hM => ?_
    refine l_end ?_
    refine exit_block ?_
    refine exit_then ?_
    refine st_reg mixed (by kernel_rfl) hS ?_
    refine sc (sg (sp_add (od rfl) (odi))) ?_
    refine sc (sg (sp_move (od rfl))) ?_
    refine sn fun a w hS => ?_
    cases h
    exact ⟨k_14, _, _, u_24, rfl, hF_14, hS.weak ⟨od rfl, od rfl, od rfl, od rfl, od rfl, od (congrArg (fun z => some (isV (α := Int) z)) hw_14), trivial⟩⟩
  · refine wp_exit ?_
    obtain rfl := (fors_done hF_14 hb).symm
    have h := hr_16
    refine exit_thenE ?_
    refine exit_thenE ?_
    refine exit_here ?_
    refine exit_then ?_
    refine wp_seq ?_
    refine wp_seq ?_
    have hS := st_os 1 6 hS rfl rfl
    refine st_reg mixed (by kernel_rfl) hS ?_
    refine sc (sg (sp_move (od rfl))) ?_
    refine sc (sg (sp_lenOS Try.underlying22 (od rfl))) ?_
    refine sc (sg (sp_move (odi))) ?_
    refine sn fun a w hS => ?_
    refine exit_then ?_
    refine wp_block ?_
    have hS := hS.weak (Δ := [(5, Pr.is u_3), (34, Pr.is u_17), (35, isV (α := Int) (s_13.length : Int)), (36, isV (α := Int) 0)]) ⟨od rfl, odOS rfl, od rfl, od rfl, trivial⟩
    obtain ⟨o_28, e_29, hr_30⟩ := bind_some h
    refine c_loop (fun K a w => ∃ k i_25 s_27, K = k + 1 ∧ ForT _ _ _ o_28 k i_25 s_27 ∧ St 72 F0 [Item.tab (α := Int) 27 3 u_3 x_4.1 x_4.2 s_27, Item.sl (α := S_api_Offer) 59 u_17 s_13] [(5, Pr.is u_3), (34, Pr.is u_17), (35, isV (α := Int) (s_13.length : Int)), (36, isV (α := Int) i_25)] w0 a w) ?_ ?_ ⟨_, _, _, rfl, fors_init e_29, hS.weak ⟨od rfl, od rfl, od rfl, od rfl, trivial⟩⟩
    · rintro a w ⟨_, _, _, hk, _⟩; cases hk
    rintro K a w ⟨k_28, i_25, s_27, hk, hF_28, hS⟩
    obtain rfl := Nat.succ.inj hk
    refine wp_seq ?_
    refine st_reg mixed (by kernel_rfl) hS ?_
    refine sc (sg (sp_lss (od rfl) (od rfl))) ?_
    refine sn fun a w hS => ?_
    refine exit_then ?_
    refine wp_seq ?_
    refine st_cond hS rfl (fun hb => ?_) (fun hb => ?_)
    · refine wp_skip ?_
      refine exit_then ?_
      obtain ⟨k_28, s', rfl, h, hF_28, hw_28⟩ := fors_more hF_28 hb
      refine wp_seq ?_
      refine wp_block ?_
      refine wp_seq ?_
      obtain ⟨v_31, e_32, h⟩ := bind_some h
      refine l_start ?_
      have hS := st_os 1 34 hS rfl rfl
      refine s_c hS (sg (sp_indexAddrOS sl22 (od rfl) (od rfl) e_32)) rfl fun a w hS hM => ?_
      refine s_c hS (sg (sp_loadEA ty59 (od rfl))) rfl fun a w hS hM => ?_
      refine s_allocStore ze59 hS (od rfl) (fun k hk => by cases hk; rfl) rfl fun a w hS hM => ?_
      refine l_end ?_
      refine exit_then ?_
      refine wp_seq ?_
      have hS := st_tab 0 5 hS rfl rfl
      obtain ⟨v_33, e_34, h⟩ := bind_some h
      obtain ⟨v_35, e_36, h⟩ := bind_some h
      refine st_reg mixed (by kernel_rfl) hS ?_
      refine sc (sg (sp_move (od rfl))) ?_
      refine sc (sg (sp_fieldAddr fd59_0 (od rfl))) ?_
      refine sc (sg (sp_load ty3 (od rfl))) ?_
      refine sc (sg (sp_indexAddrT Try.underlying112 sz27 (od rfl) (od rfl) e_34)) ?_
      refine sc (sg (sp_loadTR Try.underlying27 (od rfl))) ?_
      refine sc (sg (sp_fieldAddr fd59_1 (od rfl))) ?_
      refine sc (sg (sp_load ty3 (od rfl))) ?_
      refine sc (sg (sp_indexAddrTA sl27 (od rfl) (od rfl) e_36)) ?_
      refine sc (sg (sp_loadTA ty3 (od rfl))) ?_
      refine sc (sg (sp_fieldAddr fd59_3 (od rfl))) ?_
      refine sc (sg (sp_load ty3 (od rfl))) ?_
      refine sc (sg (sp_min (od rfl) (od rfl))) ?_
      refine sc (sg (sp_assign (od rfl))) ?_
      refine sn fun a w hS => ?_
      refine exit_then ?_
      obtain ⟨v_37, e_38, h⟩ := bind_some h
      obtain ⟨v_39, e_40, h⟩ := bind_some h
      obtain ⟨v_41, e_42, h⟩ := bind_some h
      obtain ⟨z_43, e_44, h⟩ := bind_some h
      obtain ⟨v_45, e_46, h⟩ := bind_some h
      obtain ⟨z_47, e_48, h⟩ := bind_some h
      refine st_float mixed [0, 0, 0, 0, 0, 0, 0, 0, 0, 0, 0, 0, 1, 1, 0, 1, 0, 2, 2, 2] (by kernel_rfl) (by kernel_rfl) hS ?_
      refine sfA (sg (sp_move (od rfl))) ?_
      refine sfA (sg (sp_fieldAddr fd59_0 (od rfl))) ?_
      refine sfA (sg (sp_load ty3 (od rfl))) ?_
      refine sfA (sg (sp_indexAddrT Try.underlying112 sz27 (od rfl) (od rfl) e_38)) ?_
      refine sfA (sg (sp_loadTR Try.underlying27 (od rfl))) ?_
      refine sfA (sg (sp_fieldAddr fd59_1 (od rfl))) ?_
      refine sfA (sg (sp_load ty3 (od rfl))) ?_
      refine sfA (sg (sp_move (od rfl))) ?_
      refine sfA (sg (sp_fieldAddr fd59_1 (od rfl))) ?_
      refine sfA (sg (sp_load ty3 (od rfl))) ?_
      refine sfA (sg (sp_indexAddrT Try.underlying112 sz27 (od rfl) (od rfl) e_40)) ?_
      refine sfA (sg (sp_loadTR Try.underlying27 (od rfl))) ?_
      refine sfF (sy (sy_fieldAddr fd59_0 (od rfl))) ?_
      refine sfF (sy (sy_load ty3 (od rfl))) ?_
      refine sfA (sg (sp_move (od rfl))) ?_
      refine sfF (sy (sy_move (od rfl))) ?_
      refine sfA (sg (sp_indexAddrTA sl27 (od rfl) (od rfl) e_42)) ?_
      refine sfT ?_
      refine sfT ?_
      refine sfT ?_
      refine sfN fun c a w hS hC => ?_
      refine ls ?_
      refine s_storeTA (k := 0) (i := v_31.1) (j := v_31.2.1) (Δ := [(5, Pr.is u_3), (34, Pr.is u_17), (35, isV (α := Int) (s_13.length : Int)), (36, isV (α := Int) i_25), (63, isTHn x_4.2 v_31.2.1.toNat (List.length v_39)), (65, isV (α := Int) v_31.1), (66, isV (α := Int) (imin v_35 v_31.2.2.2)), (67, isV (α := Int) (imin v_35 v_31.2.2.2)), (68, isHA Int x_4.2 v_31.1.toNat v_31.2.1.toNat)]) ty3 hS rfl ⟨odTab rfl, odOS rfl, od rfl, od rfl, odTHn rfl, od rfl, od rfl, od rfl, odHA rfl, trivial⟩ ⟨fun _ _ _ _ h => h, fun _ _ _ _ h => h, fun _ _ _ _ h => h, fun _ _ _ _ h => h, fun _ _ _ _ h => h, fun _ _ _ _ h => h, fun _ _ _ _ h => h, fun _ _ _ _ h => h, fun _ _ _ _ h => h, trivial⟩ (odHA rfl) (od rfl) e_44 fun w hS hM => ?_
      have hS : St _ F0 [Item.tab (α := Int) 27 3 u_3 x_4.1 x_4.2 z_43, Item.sl (α := S_api_Offer) 59 u_17 s_13] _ w0 _ _ := hS
      have hC := Mem.le_trans hC hM
      refine s_next hC ?_
      refine ls ?_
      refine s_c hS (sg (sp_indexAddrTHn sl27 (od rfl) (od rfl) e_46)) rfl fun a w hS hM => ?_
      have hC := Mem.le_trans hC hM
      refine s_next hC ?_
      refine ls ?_
      refine s_storeTA (k := 0) (i := v_31.2.1) (j := v_31.1) (Δ := [(5, Pr.is u_3), (34, Pr.is u_17), (35, isV (α := Int) (s_13.length : Int)), (36, isV (α := Int) i_25), (67, isV (α := Int) (imin v_35 v_31.2.2.2)), (69, isHA Int x_4.2 v_31.2.1.toNat v_31.1.toNat)]) ty3 hS rfl ⟨od rfl, od rfl, od rfl, od rfl, od rfl, od rfl, trivial⟩ ⟨fun _ _ _ _ h => h, fun _ _ _ _ h => h, fun _ _ _ _ h => h, fun _ _ _ _ h => h, fun _ _ _ _ h => h, fun _ _ _ _ h => h, trivial⟩ (od rfl) (od rfl) e_48 fun w hS hM => ?_
      have hS : St _ F0 [Item.tab (α := Int) 27 3 u_3 x_4.1 x_4.2 z_47, Item.sl (α := S_api_Offer) 59 u_17 s_13] _ w0 _ _ := hS
      have hC := Mem.le_trans hC hM
      refine s_next hC ?_
      refine s_done ?_
      refine exit_block ?_
      refine exit_then ?_
      refine st_reg mixed (by kernel_rfl) hS ?_
      refine sc (sg (sp_add (od rfl) (odi))) ?_
      refine sc (sg (sp_move (od rfl))) ?_
      refine sn fun a w hS => ?_
      cases h
      exact ⟨k_28, _, _, rfl, hF_28, hS.weak ⟨od rfl, od rfl, od rfl, od (congrArg (fun z => some (isV (α := Int) z)) hw_28), trivial⟩⟩
    · refine wp_exit ?_
      obtain rfl := (fors_done hF_28 hb).symm
      have h := hr_30
      refine exit_thenE ?_
      refine exit_thenE ?_
      refine exit_here ?_
      refine exit_then ?_
      refine wp_seq ?_
      have hS := st_drop 1 hS
      refine st_reg mixed (by kernel_rfl) hS ?_
      refine sc (sg (sp_move (od rfl))) ?_
      refine sc (sg (sp_assign (od rfl))) ?_
      refine sn fun a w hS => ?_
      refine exit_then ?_
      refine wp_ret ?_
      cases h
      exact st_retI 0 (x_4.1, x_4.2) hS ((run_results1 Try.results113 a w).trans (congrArg (fun v => Result.ok v w) (hS.get (t := 4) rfl))) rfl

theorem f83_ok {p0 : S_api_Market} {p1 : Int} {r : (List (List Int))} (h : M.f83 p0 p1 = some r) : CallOK Try.prog 83 [isV p0, isV p1] (isV r) := by
  unfold M.f83 at h
  refine callS_of Try.func83 rfl Try.ntmps83 rfl fun F0 w0 a hS => ?_
  refine wp_seq ?_
  refine st_reg mixed (by kernel_rfl) hS ?_
  refine sc (sg (sp_box (od rfl))) ?_
  refine sc (sg (sp_assign (odnil (α := List Int)))) ?_
  refine sn fun a w hS => ?_
  refine exit_then ?_
  refine wp_seq ?_
  obtain ⟨m_1, e_2, h⟩ := bind_some h
  refine l_start ?_
  refine s_c hS (sg (sp_load ty24 (od rfl))) rfl fun a w hS hM => ?_
  refine s_c hS (sg (sp_move (od rfl))) rfl fun a w hS hM => ?_
  refine s_callI en113 (f113_ok e_2) hS ⟨od rfl, od rfl, trivial⟩ rfl fun a w u_3 x_4 hS hM => ?_
  have hS : St _ F0 [Item.tab (α := Int) 27 3 u_3 x_4.1 x_4.2 m_1] _ w0 _ _ := hS
  refine s_c hS (sg (sp_assign (od rfl))) rfl fun a w hS hM => ?_
  refine l_end ?_
  refine exit_then ?_
  refine wp_seq ?_
  refine wp_seq ?_
  refine st_reg mixed (by kernel_rfl) hS ?_
  refine sc (sg (sp_fieldAddr fd24_0 (od rfl))) ?_
  refine sc (sg (sp_load ty3 (od rfl))) ?_
  refine sc (sg (sp_move (odi))) ?_
  refine sn fun a w hS => ?_
  refine exit_then ?_
  refine wp_block ?_
  obtain ⟨o_8, e_9, hr_10⟩ := bind_some h
  refine c_loop (fun K a w => ∃ k i_5 s_7, K = k + 1 ∧ ForT _ _ _ o_8 k i_5 s_7 ∧ St 76 F0 [Item.tab (α := Int) 27 3 u_3 x_4.1 x_4.2 s_7] [(2, isA (α := S_api_Market) p0), (5, Pr.is u_3), (15, isV (α := Int) p0.1), (16, isV (α := Int) i_5)] w0 a w) ?_ ?_ ⟨_, _, _, rfl, fors_init e_9, hS.weak ⟨od rfl, od rfl, od rfl, od rfl, trivial⟩⟩
  · rintro a w ⟨_, _, _, hk, _⟩; cases hk
  rintro K a w ⟨k_8, i_5, s_7, hk, hF_8, hS⟩
  obtain rfl := Nat.succ.inj hk
  refine wp_seq ?_
  refine st_reg mixed (by kernel_rfl) hS ?_
  refine sc (sg (sp_lss (od rfl) (od rfl))) ?_
  refine sn fun a w hS => ?_
  refine exit_then ?_
  refine wp_seq ?_
  refine st_cond hS rfl (fun hb => ?_) (fun hb => ?_)
  · refine wp_skip ?_
    refine exit_then ?_
    obtain ⟨k_8, s', rfl, h, hF_8, hw_8⟩ := fors_more hF_8 hb
    refine wp_seq ?_
    refine wp_block ?_
    refine wp_seq ?_
    refine st_reg mixed (by kernel_rfl) hS ?_
    refine sc (sg (sp_move (od rfl))) ?_
    refine sc (sg (sp_assign (od rfl))) ?_
    refine sn fun a w hS => ?_
    refine exit_then ?_
    obtain ⟨v_11, e_12, h⟩ := bind_some h
    obtain ⟨v_13, e_14, h⟩ := bind_some h
    obtain ⟨z_15, e_16, h⟩ := bind_some h
    refine l_start ?_
    refine s_c hS (sg (sp_move (od rfl))) rfl fun a w hS hM => ?_
    refine s_c hS (sg (sp_move (od rfl))) rfl fun a w hS hM => ?_
    have hS := st_tab 0 5 hS rfl rfl
    have hS := st_tab 0 19 hS rfl rfl
    refine s_c hS (sg (sp_indexAddrT Try.underlying112 sz27 (od rfl) (od rfl) e_12)) rfl fun a w hS hM => ?_
    refine s_c hS (sg (sp_loadTR Try.underlying27 (od rfl))) rfl fun a w hS hM => ?_
    refine s_c hS (sg (sp_move (od rfl))) rfl fun a w hS hM => ?_
    refine s_c hS (sg (sp_indexAddrTA sl27 (od rfl) (od rfl) e_14)) rfl fun a w hS hM => ?_
    refine s_storeTA (k := 0) (i := i_5) (j := i_5) (Δ := [(2, isA (α := S_api_Market) p0), (5, Pr.is u_3), (15, isV (α := Int) p0.1), (16, isV (α := Int) i_5), (24, isHA Int x_4.2 i_5.toNat i_5.toNat)]) ty3 hS rfl ⟨od rfl, odTab rfl, od rfl, od rfl, odHA rfl, trivial⟩ ⟨fun _ _ _ _ h => h, fun _ _ _ _ h => h, fun _ _ _ _ h => h, fun _ _ _ _ h => h, fun _ _ _ _ h => h, trivial⟩ (odHA rfl) (odi) e_16 fun w hS hM => ?_
    have hS : St _ F0 [Item.tab (α := Int) 27 3 u_3 x_4.1 x_4.2 z_15] _ w0 _ _ := hS
    refine l_end ?_
    refine exit_block ?_
    refine exit_then ?_
    refine st_reg mixed (by kernel_rfl) hS ?_
    refine sc (sg (sp_add (od rfl) (odi))) ?_
    refine sc (sg (sp_move (od rfl))) ?_
    refine sn fun a w hS => ?_
    cases h
    exact ⟨k_8, _, _, rfl, hF_8, hS.weak ⟨od rfl, od rfl, od rfl, od (congrArg (fun z => some (isV (α := Int) z)) hw_8), trivial⟩⟩
  · refine wp_exit ?_
    obtain rfl := (fors_done hF_8 hb).symm
    have h := hr_10
    refine exit_thenE ?_
    refine exit_thenE ?_
    refine exit_here ?_
    refine exit_then ?_
    refine wp_seq ?_
    refine wp_seq ?_
    refine st_reg mixed (by kernel_rfl) hS ?_
    refine sc (sg (sp_fieldAddr fd24_0 (od rfl))) ?_
    refine sc (sg (sp_load ty3 (od rfl))) ?_
    refine sc (sg (sp_move (odi))) ?_
    refine sn fun a w hS => ?_
    refine exit_then ?_
    refine wp_block ?_
    obtain ⟨o_20, e_21, hr_22⟩ := bind_some h
    refine c_loop (fun K a w => ∃ k i_17 s_19, K = k + 1 ∧ ForT _ _ _ o_20 k i_17 s_19 ∧ St 76 F0 [Item.tab (α := Int) 27 3 u_3 x_4.1 x_4.2 s_19] [(2, isA (α := S_api_Market) p0), (5, Pr.is u_3), (27, isV (α := Int) p0.1), (28, isV (α := Int) i_17)] w0 a w) ?_ ?_ ⟨_, _, _, rfl, fors_init e_21, hS.weak ⟨od rfl, od rfl, od rfl, od rfl, trivial⟩⟩
    · rintro a w ⟨_, _, _, hk, _⟩; cases hk
    rintro K a w ⟨k_20, i_17, s_19, hk, hF_20, hS⟩
    obtain rfl := Nat.succ.inj hk
    refine wp_seq ?_
    refine st_reg mixed (by kernel_rfl) hS ?_
    refine sc (sg (sp_lss (od rfl) (od rfl))) ?_
    refine sn fun a w hS => ?_
    refine exit_then ?_
    refine wp_seq ?_
    refine st_cond hS rfl (fun hb => ?_) (fun hb => ?_)
    · refine wp_skip ?_
      refine exit_then ?_
      obtain ⟨k_20, s', rfl, h, hF_20, hw_20⟩ := fors_more hF_20 hb
      refine wp_seq ?_
      refine wp_block ?_
      refine wp_seq ?_
      refine st_reg mixed (by kernel_rfl) hS ?_
      refine sc (sg (sp_move (od rfl))) ?_
      refine sc (sg (sp_assign (od rfl))) ?_
      refine sn fun a w hS => ?_
      refine exit_then ?_
      refine wp_seq ?_
      refine st_reg mixed (by kernel_rfl) hS ?_
      refine sc (sg (sp_fieldAddr fd24_0 (od rfl))) ?_
      refine sc (sg (sp_load ty3 (od rfl))) ?_
      refine sc (sg (sp_move (odi))) ?_
      refine sn fun a w hS => ?_
      refine exit_then ?_
      refine wp_block ?_
      obtain ⟨o_26, e_27, hr_28⟩ := bind_some h
      refine c_loop (fun K a w => ∃ k i_23 s_25, K = k + 1 ∧ ForT _ _ _ o_26 k i_23 s_25 ∧ St 76 F0 [Item.tab (α := Int) 27 3 u_3 x_4.1 x_4.2 s_25] [(2, isA (α := S_api_Market) p0), (5, Pr.is u_3), (7, isV (α := Int) i_17), (27, isV (α := Int) p0.1), (28, isV (α := Int) i_17), (32, isV (α := Int) p0.1), (33, isV (α := Int) i_23)] w0 a w) ?_ ?_ ⟨_, _, _, rfl, fors_init e_27, hS.weak ⟨od rfl, od rfl, od rfl, od rfl, od rfl, od rfl, od rfl, trivial⟩⟩
      · rintro a w ⟨_, _, _, hk, _⟩; cases hk
      rintro K a w ⟨k_26, i_23, s_25, hk, hF_26, hS⟩
      obtain rfl := Nat.succ.inj hk
      refine wp_seq ?_
      refine st_reg mixed (by kernel_rfl) hS ?_
      refine sc (sg (sp_lss (od rfl) (od rfl))) ?_
      refine sn fun a w hS => ?_
      refine exit_then ?_
      refine wp_seq ?_
      refine st_cond hS rfl (fun hb => ?_) (fun hb => ?_)
      · refine wp_skip ?_
        refine exit_then ?_
        obtain ⟨k_26, s', rfl, h, hF_26, hw_26⟩ := fors_more hF_26 hb
        refine wp_seq ?_
        refine wp_block ?_
        refine wp_seq ?_
        refine st_reg mixed (by kernel_rfl) hS ?_
        refine sc (sg (sp_move (od rfl))) ?_
        refine sc (sg (sp_assign (od rfl))) ?_
        refine sn fun a w hS => ?_
        refine exit_then ?_
        refine wp_seq ?_
        refine st_reg mixed (by kernel_rfl) hS ?_
        refine sc (sg (sp_fieldAddr fd24_0 (od rfl))) ?_
        refine sc (sg (sp_load ty3 (od rfl))) ?_
        refine sc (sg (sp_move (odi))) ?_
        refine sn fun a w hS => ?_
        refine exit_then ?_
        refine wp_block ?_
        obtain ⟨o_32, e_33, hr_34⟩ := bind_some h
        refine c_loop (fun K a w => ∃ k i_29 s_31, K = k + 1 ∧ ForT _ _ _ o_32 k i_29 s_31 ∧ St 76 F0 [Item.tab (α := Int) 27 3 u_3 x_4.1 x_4.2 s_31] [(2, isA (α := S_api_Market) p0), (5, Pr.is u_3), (7, isV (α := Int) i_17), (8, isV (α := Int) i_23), (27, isV (α := Int) p0.1), (28, isV (α := Int) i_17), (32, isV (α := Int) p0.1), (33, isV (α := Int) i_23), (37, isV (α := Int) p0.1), (38, isV (α := Int) i_29)] w0 a w) ?_ ?_ ⟨_, _, _, rfl, fors_init e_33, hS.weak ⟨od rfl, od rfl, od rfl, od rfl, od rfl, od rfl, od rfl, od rfl, od rfl, od rfl, trivial⟩⟩
        · rintro a w ⟨_, _, _, hk, _⟩; cases hk
        rintro K a w ⟨k_32, i_29, s_31, hk, hF_32, hS⟩
        obtain rfl := Nat.succ.inj hk
        refine wp_seq ?_
        refine st_reg mixed (by kernel_rfl) hS ?_
        refine sc (sg (sp_lss (od rfl) (od rfl))) ?_
        refine sn fun a w hS => ?_
        refine exit_then ?_
        refine wp_seq ?_
        refine st_cond hS rfl (fun hb => ?_) (fun hb => ?_)
        · refine wp_skip ?_
          refine exit_then ?_
          obtain ⟨k_32, s', rfl, h, hF_32, hw_32⟩ := fors_more hF_32 hb
          refine wp_seq ?_
          refine wp_block ?_
          refine wp_seq ?_
          refine st_reg mixed (by kernel_rfl) hS ?_
          refine sc (sg (sp_move (od rfl))) ?_
          refine sc (sg (sp_assign (od rfl))) ?_
          refine sn fun a w hS => ?_
          refine exit_then ?_
          refine wp_seq ?_
          have hS := st_tab 0 5 hS rfl rfl
          obtain ⟨v_35, e_36, h⟩ := bind_some h
          obtain ⟨v_37, e_38, h⟩ := bind_some h
          obtain ⟨v_39, e_40, h⟩ := bind_some h
          obtain ⟨v_41, e_42, h⟩ := bind_some h
          refine st_reg mixed (by kernel_rfl) hS ?_
          refine sc (sg (sp_move (od rfl))) ?_
          refine sc (sg (sp_move (od rfl))) ?_
          refine sc (sg (sp_indexAddrT Try.underlying112 sz27 (od rfl) (od rfl) e_36)) ?_
          refine sc (sg (sp_loadTR Try.underlying27 (od rfl))) ?_
          refine sc (sg (sp_move (od rfl))) ?_
          refine sc (sg (sp_indexAddrTA sl27 (od rfl) (od rfl) e_38)) ?_
          refine sc (sg (sp_loadTA ty3 (od rfl))) ?_
          refine sc (sg (sp_move (od rfl))) ?_
          refine sc (sg (sp_move (od rfl))) ?_
          refine sc (sg (sp_indexAddrT Try.underlying112 sz27 (od rfl) (od rfl) e_40)) ?_
          refine sc (sg (sp_loadTR Try.underlying27 (od rfl))) ?_
          refine sc (sg (sp_move (od rfl))) ?_
          refine sc (sg (sp_indexAddrTA sl27 (od rfl) (od rfl) e_42)) ?_
          refine sc (sg (sp_loadTA ty3 (od rfl))) ?_
          refine sc (sg (sp_add (od rfl) (od rfl))) ?_
          refine sc (sg (sp_assign (od rfl))) ?_
          refine sn fun a w hS => ?_
          refine exit_then ?_
          refine wp_seq ?_
          obtain ⟨v_43, e_44, h⟩ := bind_some h
          obtain ⟨v_45, e_46, h⟩ := bind_some h
          refine st_reg mixed (by kernel_rfl) hS ?_
          refine sc (sg (sp_move (od rfl))) ?_
          refine sc (sg (sp_move (od rfl))) ?_
          refine sc (sg (sp_move (od rfl))) ?_
          refine sc (sg (sp_indexAddrT Try.underlying112 sz27 (od rfl) (od rfl) e_44)) ?_
          refine sc (sg (sp_loadTR Try.underlying27 (od rfl))) ?_
          refine sc (sg (sp_move (od rfl))) ?_
          refine sc (sg (sp_indexAddrTA sl27 (od rfl) (od rfl) e_46)) ?_
          refine sc (sg (sp_loadTA ty3 (od rfl))) ?_
          refine sc (sg (sp_lss (od rfl) (od rfl))) ?_
          refine sn fun a w hS => ?_
          refine exit_then ?_
          obtain ⟨y_48, hj_47, h⟩ := bind_some h
          refine wp_mono (Q := fun e a w => e = Exit.normal ∧ St 76 F0 [Item.tab (α := Int) 27 3 u_3 x_4.1 x_4.2 y_48] [(2, isA (α := S_api_Market) p0), (5, Pr.is u_3), (7, isV (α := Int) i_17), (8, isV (α := Int) i_23), (27, isV (α := Int) p0.1), (28, isV (α := Int) i_17), (32, isV (α := Int) p0.1), (33, isV (α := Int) i_23), (37, isV (α := Int) p0.1), (38, isV (α := Int) i_29)] w0 a w) ?_ ?_
          · refine st_cond hS rfl (fun hb => ?_) (fun hb => ?_)
            · have h := ite_t hb hj_47
              obtain ⟨v_49, e_50, h⟩ := bind_some h
              obtain ⟨v_51, e_52, h⟩ := bind_some h
              obtain ⟨z_53, e_54, h⟩ := bind_some h
              refine l_start ?_
              refine s_c hS (sg (sp_move (od rfl))) rfl fun a w hS hM => ?_
              refine s_c hS (sg (sp_move (od rfl))) rfl fun a w hS hM => ?_
              refine s_c hS (sg (sp_indexAddrT Try.underlying112 sz27 (od rfl) (od rfl) e_50)) rfl fun a w hS hM => ?_
              refine s_c hS (sg (sp_loadTR Try.underlying27 (od rfl))) rfl fun a w hS hM => ?_
              refine s_c hS (sg (sp_move (od rfl))) rfl fun a w hS hM => ?_
              refine s_c hS (sg (sp_move (od rfl))) rfl fun a w hS hM => ?_
              refine s_c hS (sg (sp_indexAddrTA sl27 (od rfl) (od rfl) e_52)) rfl fun a w hS hM => ?_
              refine s_storeTA (k := 0) (i := i_23) (j := i_29) (Δ := [(2, isA (α := S_api_Market) p0), (5, Pr.is u_3), (7, isV (α := Int) i_17), (8, isV (α := Int) i_23), (27, isV (α := Int) p0.1), (28, isV (α := Int) i_17), (32, isV (α := Int) p0.1), (33, isV (α := Int) i_23), (37, isV (α := Int) p0.1), (38, isV (α := Int) i_29), (70, isV (α := Int) (wr (v_37 + v_41))), (71, isHA Int x_4.2 i_23.toNat i_29.toNat)]) ty3 hS rfl ⟨od rfl, odTab rfl, od rfl, od rfl, od rfl, od rfl, od rfl, od rfl, od rfl, od rfl, od rfl, odHA rfl, trivial⟩ ⟨fun _ _ _ _ h => h, fun _ _ _ _ h => h, fun _ _ _ _ h => h, fun _ _ _ _ h => h, fun _ _ _ _ h => h, fun _ _ _ _ h => h, fun _ _ _ _ h => h, fun _ _ _ _ h => h, fun _ _ _ _ h => h, fun _ _ _ _ h => h, fun _ _ _ _ h => h, fun _ _ _ _ h => h, trivial⟩ (odHA rfl) (od rfl) e_54 fun w hS hM => ?_
              have hS : St _ F0 [Item.tab (α := Int) 27 3 u_3 x_4.1 x_4.2 z_53] _ w0 _ _ := hS
              refine l_end ?_
              cases h
              exact ⟨rfl, hS.weak ⟨od rfl, od rfl, od rfl, od rfl, od rfl, od rfl, od rfl, od rfl, od rfl, od rfl, trivial⟩⟩
            · have h := ite_f hb hj_47
              refine wp_skip ?_
              cases h
              exact ⟨rfl, hS.weak ⟨od rfl, odTab rfl, od rfl, od rfl, od rfl, od rfl, od rfl, od rfl, od rfl, od rfl, trivial⟩⟩
          rintro e a w ⟨rfl, hS⟩
          refine exit_block ?_
          refine exit_then ?_
          refine st_reg mixed (by kernel_rfl) hS ?_
          refine sc (sg (sp_add (od rfl) (odi))) ?_
          refine sc (sg (sp_move (od rfl))) ?_
          refine sn fun a w hS => ?_
          cases h
          exact ⟨k_32, _, _, rfl, hF_32, hS.weak ⟨od rfl, od rfl, od rfl, od rfl, od rfl, od rfl, od rfl, od rfl, od rfl, od (congrArg (fun z => some (isV (α := Int) z)) hw_32), trivial⟩⟩
        · refine wp_exit ?_
          obtain rfl := (fors_done hF_32 hb).symm
          have h := hr_34
          refine exit_thenE ?_
          refine exit_thenE ?_
          refine exit_here ?_
          refine exit_block ?_
          refine exit_then ?_
          refine st_reg mixed (by kernel_rfl) hS ?_
          refine sc (sg (sp_add (od rfl) (odi))) ?_
          refine sc (sg (sp_move (od rfl))) ?_
          refine sn fun a w hS => ?_
          cases h
          exact ⟨k_26, _, _, rfl, hF_26, hS.weak ⟨od rfl, od rfl, od rfl, od rfl, od rfl, od rfl, od (congrArg (fun z => some (isV (α := Int) z)) hw_26), trivial⟩⟩
      · refine wp_exit ?_
        obtain rfl := (fors_done hF_26 hb).symm
        have h := hr_28
        refine exit_thenE ?_
        refine exit_thenE ?_
        refine exit_here ?_
        refine exit_block ?_
        refine exit_then ?_
        refine st_reg mixed (by kernel_rfl) hS ?_
        refine sc (sg (sp_add (od rfl) (odi))) ?_
        refine sc (sg (sp_move (od rfl))) ?_
        refine sn fun a w hS => ?_
        cases h
        exact ⟨k_20, _, _, rfl, hF_20, hS.weak ⟨od rfl, od rfl, od rfl, od (congrArg (fun z => some (isV (α := Int) z)) hw_20), trivial⟩⟩
    · refine wp_exit ?_
      obtain rfl := (fors_done hF_20 hb).symm
      have h := hr_22
      refine exit_thenE ?_
      refine exit_thenE ?_
      refine exit_here ?_
      refine exit_then ?_
      refine wp_seq ?_
      refine st_reg mixed (by kernel_rfl) hS ?_
      refine sc (sg (sp_move (od rfl))) ?_
      refine sc (sg (sp_assign (od rfl))) ?_
      refine sn fun a w hS => ?_
      refine exit_then ?_
      refine wp_ret ?_
      have hS0 := hS
      have hS := st_freezeT 0 4 hS rfl rfl
      have hS := st_also (t := 4) (q := 5) hS0 hS rfl rfl rfl
      have hS := st_also (t := 4) (q := 75) hS0 hS rfl rfl rfl
      cases h
      exact st_ret hS (run_results1 Try.results83 a w) (hS.get rfl)

theorem f33_ok {p0 : S_api_Market} {p1 : List Int} {p2 : Int} {p3 : Int} {r : Int × Bool × Int} (h : M.f33 p0 p1 p2 p3 = some r) : CallOK Try.prog 33 [isV p0, isV p1, isV p2, isV p3] (isTup [isV r.1, isV r.2.1, isV r.2.2]) := by
  unfold M.f33 at h
  refine callS_of Try.func33 rfl Try.ntmps33 rfl fun F0 w0 a hS => ?_
  refine wp_seq ?_
  refine st_reg mixed (by kernel_rfl) hS ?_
  refine sc (sg (sp_box (od rfl))) ?_
  refine sc (sg (sp_assign (odi))) ?_
  refine sc (sg (sp_assign (odb))) ?_
  refine sc (sg (sp_assign (odi))) ?_
  refine sn fun a w hS => ?_
  refine exit_then ?_
  refine wp_seq ?_
  refine wp_seq ?_
  obtain ⟨v_1, e_2, h⟩ := bind_some h
  refine st_reg mixed (by kernel_rfl) hS ?_
  refine sc (sg (sp_load ty24 (od rfl))) ?_
  refine sc (sg (sp_move (od rfl))) ?_
  refine sc (sg (sp_move (od rfl))) ?_
  refine sc (sg (sp_move (od rfl))) ?_
  refine sc (sg (sp_buildSlice [.tmp 15, .tmp 16] ([p2, p3] : List Int) sl27 ze3 rfl rfl rfl rfl ⟨od rfl, od rfl, trivial⟩)) ?_
  refine sc (sg (bd106_0 (od rfl))) ?_
  refine sc (sg (sp_call en76 (f76_ok e_2) ⟨od rfl, od rfl, od rfl, trivial⟩)) ?_
  refine sc (sg (sp_assign (od rfl))) ?_
  refine sn fun a w hS => ?_
  refine exit_then ?_
  refine wp_seq ?_
  refine st_reg mixed (by kernel_rfl) hS ?_
  refine sc (sg (sp_move (od rfl))) ?_
  refine sc (sg (sp_neq (od rfl) (odi))) ?_
  refine sn fun a w hS => ?_
  refine exit_then ?_
  refine st_cond hS rfl (fun hb => ?_) (fun hb => ?_)
  · have h := ite_t hb h
    refine wp_seq ?_
    refine st_reg mixed (by kernel_rfl) hS ?_
    refine sc (sg (sp_move (od rfl))) ?_
    refine sc (sg (sp_assign (odi))) ?_
    refine sc (sg (sp_assign (odb))) ?_
    refine sc (sg (sp_assign (od rfl))) ?_
    refine sn fun a w hS => ?_
    refine exit_then ?_
    refine wp_ret ?_
    refine exit_thenR ?_
    cases h
    exact st_ret hS (run_results3 Try.results33 a w) (⟨_, rfl, hS.get rfl, hS.get rfl, hS.get rfl, trivial⟩)
  · have h := ite_f hb h
    refine wp_skip ?_
    refine exit_then ?_
    refine wp_seq ?_
    obtain ⟨v_3, e_4, h⟩ := bind_some h
    obtain ⟨v_5, e_6, h⟩ := bind_some h
    refine st_reg mixed (by kernel_rfl) hS ?_
    refine sc (sg (sp_load ty24 (od rfl))) ?_
    refine sc (sg (sp_move (od rfl))) ?_
    refine sc (sg (sp_call en92 (f92_ok e_4) ⟨od rfl, trivial⟩)) ?_
    refine sc (sg (sp_call en83 (f83_ok e_6) ⟨od rfl, od rfl, trivial⟩)) ?_
    refine sc (sg (sp_assign (od rfl))) ?_
    refine sn fun a w hS => ?_
    refine exit_then ?_
    refine wp_seq ?_
    refine wp_seq ?_
    obtain ⟨v_7, e_8, h⟩ := bind_some h
    obtain ⟨v_9, e_10, h⟩ := bind_some h
    refine st_reg mixed (by kernel_rfl) hS ?_
    refine sc (sg (sp_move (od rfl))) ?_
    refine sc (sg (sp_move (od rfl))) ?_
    refine sc (sg (sp_indexAddr sl112 (od rfl) (od rfl) e_8)) ?_
    refine sc (sg (sp_load ty27 (od rfl))) ?_
    refine sc (sg (sp_move (od rfl))) ?_
    refine sc (sg (sp_indexAddr sl27 (od rfl) (od rfl) e_10)) ?_
    refine sc (sg (sp_load ty3 (od rfl))) ?_
    refine sc (sg (sp_geq (od rfl) (odi))) ?_
    refine sn fun a w hS => ?_
    refine exit_then ?_
    refine st_cond hS rfl (fun hb => ?_) (fun hb => ?_)
    · have h := ite_t hb h
      refine wp_seq ?_
      refine st_reg mixed (by kernel_rfl) hS ?_
      refine sc (sg (sp_assign (odi))) ?_
      refine sc (sg (sp_assign (odb))) ?_
      refine sc (sg (sp_assign (odi))) ?_
      refine sn fun a w hS => ?_
      refine exit_then ?_
      refine wp_ret ?_
      refine exit_thenR ?_
      cases h
      exact st_ret hS (run_results3 Try.results33 a w) (⟨_, rfl, hS.get rfl, hS.get rfl, hS.get rfl, trivial⟩)
    · have h := ite_f hb h
      refine wp_skip ?_
      refine exit_then ?_
      refine wp_seq ?_
      obtain ⟨v_11, e_12, h⟩ := bind_some h
      obtain ⟨v_13, e_14, h⟩ := bind_some h
      refine st_reg mixed (by kernel_rfl) hS ?_
      refine sc (sg (sp_move (od rfl))) ?_
      refine sc (sg (sp_move (od rfl))) ?_
      refine sc (sg (sp_indexAddr sl112 (od rfl) (od rfl) e_12)) ?_
      refine sc (sg (sp_load ty27 (od rfl))) ?_
      refine sc (sg (sp_move (od rfl))) ?_
      refine sc (sg (sp_indexAddr sl27 (od rfl) (od rfl) e_14)) ?_
      refine sc (sg (sp_load ty3 (od rfl))) ?_
      refine sc (sg (sp_assign (od rfl))) ?_
      refine sc (sg (sp_assign (odb))) ?_
      refine sc (sg (sp_assign (odi))) ?_
      refine sn fun a w hS => ?_
      refine exit_then ?_
      refine wp_ret ?_
      cases h
      exact st_ret hS (run_results3 Try.results33 a w) (⟨_, rfl, hS.get rfl, hS.get rfl, hS.get rfl, trivial⟩)

theorem f116_ok {p0 : Int} {c0 : S_api_Market} {c1 : Int} {c2 : Int} {c3 : Int} {r : Bool} (h : M.f116 p0 c0 c1 c2 c3 = some r) : CallOK Try.prog 116 [isV p0, isA c0, isA c1, isA c2, isA c3] (isV r) := by
  unfold M.f116 at h
  refine callS_of Try.func116 rfl Try.ntmps116 rfl fun F0 w0 a hS => ?_
  refine wp_seq ?_
  refine st_reg mixed (by kernel_rfl) hS ?_
  refine sc (sg (sp_assign (odb))) ?_
  refine sn fun a w hS => ?_
  refine exit_then ?_
  refine wp_seq ?_
  obtain ⟨v_1, e_2, h⟩ := bind_some h
  obtain ⟨v_3, e_4, h⟩ := bind_some h
  obtain ⟨v_5, e_6, h⟩ := bind_some h
  refine st_reg mixed (by kernel_rfl) hS ?_
  refine sc (sg (sp_load ty24 (od rfl))) ?_
  refine sc (sg (sp_move (od rfl))) ?_
  refine sc (sg (sp_call en83 (f83_ok e_2) ⟨od rfl, od rfl, trivial⟩)) ?_
  refine sc (sg (sp_load ty3 (od rfl))) ?_
  refine sc (sg (sp_indexAddr sl112 (od rfl) (od rfl) e_4)) ?_
  refine sc (sg (sp_load ty27 (od rfl))) ?_
  refine sc (sg (sp_load ty3 (od rfl))) ?_
  refine sc (sg (sp_indexAddr sl27 (od rfl) (od rfl) e_6)) ?_
  refine sc (sg (sp_load ty3 (od rfl))) ?_
  refine sc (sg (sp_load ty3 (od rfl))) ?_
  refine sc (sg (sp_leq (od rfl) (od rfl))) ?_
  refine sc (sg (sp_assign (od rfl))) ?_
  refine sn fun a w hS => ?_
  refine exit_then ?_
  refine wp_ret ?_
  cases h
  exact st_ret hS (run_results1 Try.results116 a w) (hS.get rfl)

theorem f70_ok {p0 : S_api_Market} {p1 : Int} {p2 : Int} {p3 : Int} {r : S_keeper_want} (h : M.f70 p0 p1 p2 p3 = some r) : CallOK Try.prog 70 [isV p0, isV p1, isV p2, isV p3] (isV r) := by
  unfold M.f70 at h
  refine callS_of Try.func70 rfl Try.ntmps70 rfl fun F0 w0 a hS => ?_
  refine wp_seq ?_
  refine l_start ?_
  refine s_c hS (sg (sp_box (od rfl))) rfl fun a w hS hM => ?_
  refine s_c hS (sg (sp_box (od rfl))) rfl fun a w hS hM => ?_
  refine s_c hS (sg (sp_box (od rfl))) rfl fun a w hS hM => ?_
  refine s_c hS (sg (sp_box (od rfl))) rfl fun a w hS hM => ?_
  refine s_alloc zi97 hS rfl fun a w b_1 hS hM => ?_
  have hS : St _ F0 [Item.box (α := S_keeper_want) 97 b_1 (((fun _ => none), ()) : S_keeper_want)] _ w0 _ _ := hS
  refine l_end ?_
  refine exit_then ?_
  refine wp_seq ?_
  refine l_start ?_
  refine s_c hS (sg (mk_fn95 (f := (fun x0 => M.f116 x0 p0 p1 p2 p3)) (κs := [isA (α := S_api_Market) p0, isA (α := Int) p1, isA (α := Int) p2, isA (α := Int) p3]) ⟨fun _ _ _ _ h => h, fun _ _ _ _ h => h, fun _ _ _ _ h => h, fun _ _ _ _ h => h, trivial⟩ en116 ⟨od rfl, od rfl, od rfl, od rfl, trivial⟩ (fun _ _ h => f116_ok h))) rfl fun a w hS hM => ?_
  refine s_c hS (sg (bd97_0 (od rfl))) rfl fun a w hS hM => ?_
  refine s_storeB (k := 0) (Δ := [(8, Pr.ptr b_1), (10, isV (α := S_keeper_want) ((((fun x0 => M.f116 x0 p0 p1 p2 p3) : (Int → Option Bool)), ()) : S_keeper_want))]) ty97 hS rfl ⟨od rfl, od rfl, trivial⟩ ⟨fun _ _ _ _ h => h, fun _ _ _ _ h => h, trivial⟩ rfl (od rfl) fun w hS hM => ?_
  have hS : St _ F0 [Item.box (α := S_keeper_want) 97 b_1 ((((fun x0 => M.f116 x0 p0 p1 p2 p3) : (Int → Option Bool)), ()) : S_keeper_want)] _ w0 _ _ := hS
  have hS := st_freezeB 0 8 hS rfl rfl
  refine l_end ?_
  refine exit_then ?_
  refine wp_ret ?_
  cases h
  obtain ⟨v, hr, hv⟩ := run_resC1 Try.results70 ty97 (hS.get rfl)
  exact st_ret hS hr hv

theorem f82_ok {p0 : Int} {p1 : S_api_Market} {r : Int} (h : M.f82 p0 p1 = some r) : CallOK Try.prog 82 [isV p0, isV p1] (isV r) := by
  unfold M.f82 at h
  refine callS_of Try.func82 rfl Try.ntmps82 rfl fun F0 w0 a hS => ?_
  refine wp_seq ?_
  refine st_reg mixed (by kernel_rfl) hS ?_
  refine sc (sg (sp_box (od rfl))) ?_
  refine sc (sg (sp_assign (odi))) ?_
  refine sn fun a w hS => ?_
  refine exit_then ?_
  refine wp_seq ?_
  refine wp_seq ?_
  obtain ⟨v_1, e_2, h⟩ := bind_some h
  refine st_reg mixed (by kernel_rfl) hS ?_
  refine sc (sg (sp_move (od rfl))) ?_
  refine sc (sg (sp_call en118 (f118_ok e_2) ⟨od rfl, trivial⟩)) ?_
  refine sc (sg (sp_len Try.underlying27 (od rfl))) ?_
  refine sc (sg (sp_move (odi))) ?_
  refine sn fun a w hS => ?_
  refine exit_then ?_
  refine wp_block ?_
  obtain ⟨o_6, e_7, hr_8⟩ := bind_some h
  refine c_loop (fun K a w => ∃ k i_3 s_5, K = k + 1 ∧ ForT _ _ _ o_6 k i_3 s_5 ∧ St 24 F0 [] [(3, isA (α := S_api_Market) p1), (4, isV (α := Int) s_5), (8, isV (α := List Int) v_1), (9, isV (α := Int) (v_1.length : Int)), (10, isV (α := Int) i_3)] w0 a w) ?_ ?_ ⟨_, _, _, rfl, fors_init e_7, hS.weak ⟨od rfl, od rfl, od rfl, od rfl, od rfl, trivial⟩⟩
  · rintro a w ⟨_, _, _, hk, _⟩; cases hk
  rintro K a w ⟨k_6, i_3, s_5, hk, hF_6, hS⟩
  obtain rfl := Nat.succ.inj hk
  refine wp_seq ?_
  refine st_reg mixed (by kernel_rfl) hS ?_
  refine sc (sg (sp_lss (od rfl) (od rfl))) ?_
  refine sn fun a w hS => ?_
  refine exit_then ?_
  refine wp_seq ?_
  refine st_cond hS rfl (fun hb => ?_) (fun hb => ?_)
  · refine wp_skip ?_
    refine exit_then ?_
    obtain ⟨k_6, s', rfl, h, hF_6, hw_6⟩ := fors_more hF_6 hb
    refine wp_seq ?_
    refine wp_block ?_
    refine wp_seq ?_
    obtain ⟨v_9, e_10, h⟩ := bind_some h
    refine st_reg mixed (by kernel_rfl) hS ?_
    refine sc (sg (sp_indexAddr sl27 (od rfl) (od rfl) e_10)) ?_
    refine sc (sg (sp_load ty3 (od rfl))) ?_
    refine sc (sg (sp_assign (od rfl))) ?_
    refine sn fun a w hS => ?_
    refine exit_then ?_
    obtain ⟨v_11, e_12, h⟩ := bind_some h
    refine st_reg mixed (by kernel_rfl) hS ?_
    refine sc (sg (sp_move (od rfl))) ?_
    refine sc (sg (sp_fieldAddr fd24_2 (od rfl))) ?_
    refine sc (sg (sp_load ty22 (od rfl))) ?_
    refine sc (sg (sp_move (od rfl))) ?_
    refine sc (sg (sp_indexAddr sl22 (od rfl) (od rfl) e_12)) ?_
    refine sc (sg (sp_fieldAddr fd59_2 (od rfl))) ?_
    refine sc (sg (sp_load ty3 (od rfl))) ?_
    refine sc (sg (sp_add (od rfl) (od rfl))) ?_
    refine sc (sg (sp_assign (od rfl))) ?_
    refine sn fun a w hS => ?_
    refine exit_block ?_
    refine exit_then ?_
    refine st_reg mixed (by kernel_rfl) hS ?_
    refine sc (sg (sp_add (od rfl) (odi))) ?_
    refine sc (sg (sp_move (od rfl))) ?_
    refine sn fun a w hS => ?_
    cases h
    exact ⟨k_6, _, _, rfl, hF_6, hS.weak ⟨od rfl, od rfl, od rfl, od rfl, od (congrArg (fun z => some (isV (α := Int) z)) hw_6), trivial⟩⟩
  · refine wp_exit ?_
    obtain rfl := (fors_done hF_6 hb).symm
    have h := hr_8
    refine exit_thenE ?_
    refine exit_thenE ?_
    refine exit_here ?_
    refine exit_then ?_
    refine wp_seq ?_
    refine st_reg mixed (by kernel_rfl) hS ?_
    refine sc (sg (sp_move (od rfl))) ?_
    refine sc (sg (sp_assign (od rfl))) ?_
    refine sn fun a w hS => ?_
    refine exit_then ?_
    refine wp_ret ?_
    cases h
    exact st_ret hS (run_results1 Try.results82 a w) (hS.get rfl)

theorem f94_ok {p0 : List Int} {p1 : List Int} {r : Int} (h : M.f94 p0 p1 = some r) : CallOK Try.prog 94 [isV p0, isV p1] (isV r) := by
  unfold M.f94 at h
  refine callS_of Try.func94 rfl Try.ntmps94 rfl fun F0 w0 a hS => ?_
  refine wp_seq ?_
  refine st_reg mixed (by kernel_rfl) hS ?_
  refine sc (sg (sp_assign (odi))) ?_
  refine sn fun a w hS => ?_
  refine exit_then ?_
  refine wp_seq ?_
  refine wp_seq ?_
  refine st_reg mixed (by kernel_rfl) hS ?_
  refine sc (sg (sp_move (od rfl))) ?_
  refine sc (sg (sp_len Try.underlying27 (od rfl))) ?_
  refine sc (sg (sp_move (odi))) ?_
  refine sn fun a w hS => ?_
  refine exit_then ?_
  refine wp_block ?_
  obtain ⟨o_4, e_5, hr_6⟩ := bind_some h
  refine c_loop (fun K a w => ∃ k i_1 s_3, K = k + 1 ∧ ForI _ _ _ o_4 k i_1 s_3 ∧ St 36 F0 [] [(0, isV (α := List Int) p0), (1, isV (α := List Int) p1), (9, isV (α := List Int) p0), (10, isV (α := Int) (p0.length : Int)), (11, isV (α := Int) i_1)] w0 a w) ?_ ?_ ⟨_, _, _, rfl, for_init e_5, hS.weak ⟨od rfl, od rfl, od rfl, od rfl, od rfl, trivial⟩⟩
  · rintro a w ⟨_, _, _, hk, _⟩; cases hk
  rintro K a w ⟨k_4, i_1, s_3, hk, hF_4, hS⟩
  obtain rfl := Nat.succ.inj hk
  refine wp_seq ?_
  refine st_reg mixed (by kernel_rfl) hS ?_
  refine sc (sg (sp_lss (od rfl) (od rfl))) ?_
  refine sn fun a w hS => ?_
  refine exit_then ?_
  refine wp_seq ?_
  refine st_cond hS rfl (fun hb => ?_) (fun hb => ?_)
  · refine wp_skip ?_
    refine exit_then ?_
    obtain ⟨k_4, o, rfl, h, hN_4, hL_4, hw_4⟩ := for_more hF_4 hb
    refine wp_seq ?_
    refine wp_block ?_
    refine wp_seq ?_
    obtain ⟨v_7, e_8, h⟩ := bind_some h
    refine st_reg mixed (by kernel_rfl) hS ?_
    refine sc (sg (sp_move (od rfl))) ?_
    refine sc (sg (sp_indexAddr sl27 (od rfl) (od rfl) e_8)) ?_
    refine sc (sg (sp_load ty3 (od rfl))) ?_
    refine sc (sg (sp_assign (od rfl))) ?_
    refine sc (sg (sp_assign (od rfl))) ?_
    refine sn fun a w hS => ?_
    refine exit_then ?_
    refine wp_seq ?_
    refine wp_seq ?_
    refine st_reg mixed (by kernel_rfl) hS ?_
    refine sc (sg (sp_move (od rfl))) ?_
    refine sc (sg (sp_move (od rfl))) ?_
    refine sc (sg (sp_len Try.underlying27 (od rfl))) ?_
    refine sc (sg (sp_geq (od rfl) (od rfl))) ?_
    refine sn fun a w hS => ?_
    refine exit_then ?_
    refine st_cond hS rfl (fun hb => ?_) (fun hb => ?_)
    · have h := ite_t hb h
      refine wp_seq ?_
      refine st_reg mixed (by kernel_rfl) hS ?_
      refine sc (sg (sp_assign (odi))) ?_
      refine sn fun a w hS => ?_
      refine exit_then ?_
      refine wp_ret ?_
      refine exit_thenR ?_
      refine exit_blockR ?_
      refine exit_thenR ?_
      cases h
      obtain rfl := hL_4 _ rfl
      have h := (elim_leave hr_6)
      refine exit_thenR ?_
      refine exit_blockR ?_
      refine exit_thenR ?_
      cases h
      exact st_ret hS (run_results1 Try.results94 a w) (hS.get rfl)
    · have h := ite_f hb h
      refine wp_skip ?_
      refine exit_then ?_
      refine wp_seq ?_
      obtain ⟨v_9, e_10, h⟩ := bind_some h
      refine st_reg mixed (by kernel_rfl) hS ?_
      refine sc (sg (sp_move (od rfl))) ?_
      refine sc (sg (sp_move (od rfl))) ?_
      refine sc (sg (sp_indexAddr sl27 (od rfl) (od rfl) e_10)) ?_
      refine sc (sg (sp_load ty3 (od rfl))) ?_
      refine sc (sg (sp_assign (od rfl))) ?_
      refine sn fun a w hS => ?_
      refine exit_then ?_
      refine wp_seq ?_
      obtain ⟨v_11, e_12, h⟩ := bind_some h
      refine st_reg mixed (by kernel_rfl) hS ?_
      refine sc (sg (sp_move (od rfl))) ?_
      refine sc (sg (sp_move (od rfl))) ?_
      refine sc (sg (sp_call en125 (f125_ok e_12) ⟨od rfl, od rfl, trivial⟩)) ?_
      refine sc (sg (sp_assign (od rfl))) ?_
      refine sn fun a w hS => ?_
      refine exit_then ?_
      refine wp_seq ?_
      refine st_reg mixed (by kernel_rfl) hS ?_
      refine sc (sg (sp_move (od rfl))) ?_
      refine sc (sg (sp_neq (od rfl) (odi))) ?_
      refine sn fun a w hS => ?_
      refine exit_then ?_
      refine st_cond hS rfl (fun hb => ?_) (fun hb => ?_)
      · have h := ite_t hb h
        refine wp_seq ?_
        refine st_reg mixed (by kernel_rfl) hS ?_
        refine sc (sg (sp_move (od rfl))) ?_
        refine sc (sg (sp_assign (od rfl))) ?_
        refine sn fun a w hS => ?_
        refine exit_then ?_
        refine wp_ret ?_
        refine exit_blockR ?_
        refine exit_thenR ?_
        cases h
        obtain rfl := hL_4 _ rfl
        have h := (elim_leave hr_6)
        refine exit_thenR ?_
        refine exit_blockR ?_
        refine exit_thenR ?_
        cases h
        exact st_ret hS (run_results1 Try.results94 a w) (hS.get rfl)
      · have h := ite_f hb h
        refine wp_skip ?_
        refine exit_block ?_
        refine exit_then ?_
        refine st_reg mixed (by kernel_rfl) hS ?_
        refine sc (sg (sp_add (od rfl) (odi))) ?_
        refine sc (sg (sp_move (od rfl))) ?_
        refine sn fun a w hS => ?_
        cases h
        exact ⟨k_4, _, _, rfl, hN_4 _ rfl, hS.weak ⟨od rfl, od rfl, od rfl, od rfl, od (congrArg (fun z => some (isV (α := Int) z)) hw_4), trivial⟩⟩
  · refine wp_exit ?_
    obtain rfl := for_done hF_4 hb
    have h := elim_again hr_6
    refine exit_thenE ?_
    refine exit_thenE ?_
    refine exit_here ?_
    refine exit_then ?_
    refine wp_seq ?_
    refine wp_seq ?_
    refine st_reg mixed (by kernel_rfl) hS ?_
    refine sc (sg (sp_move (od rfl))) ?_
    refine sc (sg (sp_len Try.underlying27 (od rfl))) ?_
    refine sc (sg (sp_move (od rfl))) ?_
    refine sc (sg (sp_len Try.underlying27 (od rfl))) ?_
    refine sc (sg (sp_lss (od rfl) (od rfl))) ?_
    refine sn fun a w hS => ?_
    refine exit_then ?_
    refine st_cond hS rfl (fun hb => ?_) (fun hb => ?_)
    · have h := ite_t hb h
      refine wp_seq ?_
      refine st_reg mixed (by kernel_rfl) hS ?_
      refine sc (sg (sp_assign (odi))) ?_
      refine sn fun a w hS => ?_
      refine exit_then ?_
      refine wp_ret ?_
      refine exit_thenR ?_
      cases h
      exact st_ret hS (run_results1 Try.results94 a w) (hS.get rfl)
    · have h := ite_f hb h
      refine wp_skip ?_
      refine exit_then ?_
      refine wp_seq ?_
      refine st_reg mixed (by kernel_rfl) hS ?_
      refine sc (sg (sp_assign (odi))) ?_
      refine sn fun a w hS => ?_
      refine exit_then ?_
      refine wp_ret ?_
      cases h
      exact st_ret hS (run_results1 Try.results94 a w) (hS.get rfl)

theorem f117_ok {p0 : S_keeper_choice} {p1 : S_keeper_choice} {r : Bool} (h : M.f117 p0 p1 = some r) : CallOK Try.prog 117 [isV p0, isV p1] (isV r) := by
  unfold M.f117 at h
  refine callS_of Try.func117 rfl Try.ntmps117 rfl fun F0 w0 a hS => ?_
  refine wp_seq ?_
  refine st_reg mixed (by kernel_rfl) hS ?_
  refine sc (sg (sp_box (od rfl))) ?_
  refine sc (sg (sp_box (od rfl))) ?_
  refine sc (sg (sp_assign (odb))) ?_
  refine sn fun a w hS => ?_
  refine exit_then ?_
  refine wp_seq ?_
  obtain ⟨v_1, e_2, h⟩ := bind_some h
  obtain ⟨v_3, e_4, h⟩ := bind_some h
  refine st_reg mixed (by kernel_rfl) hS ?_
  refine sc (sg (sp_fieldAddr fd108_2 (od rfl))) ?_
  refine sc (sg (sp_load ty99 (od rfl))) ?_
  refine sc (sg (sp_call en118 (f118_ok e_2) ⟨od rfl, trivial⟩)) ?_
  refine sc (sg (sp_fieldAddr fd108_2 (od rfl))) ?_
  refine sc (sg (sp_load ty99 (od rfl))) ?_
  refine sc (sg (sp_call en118 (f118_ok e_4) ⟨od rfl, trivial⟩)) ?_
  refine sc (sg (sp_assign (od rfl))) ?_
  refine sc (sg (sp_assign (od rfl))) ?_
  refine sn fun a w hS => ?_
  refine exit_then ?_
  refine wp_seq ?_
  obtain ⟨v_5, e_6, h⟩ := bind_some h
  obtain ⟨v_7, e_8, h⟩ := bind_some h
  obtain ⟨v_9, e_10, h⟩ := bind_some h
  obtain ⟨v_11, e_12, h⟩ := bind_some h
  refine st_reg mixed (by kernel_rfl) hS ?_
  refine sc (sg (sp_fieldAddr fd108_1 (od rfl))) ?_
  refine sc (sg (sp_load ty3 (od rfl))) ?_
  refine sc (sg (sp_fieldAddr fd108_1 (od rfl))) ?_
  refine sc (sg (sp_load ty3 (od rfl))) ?_
  refine sc (sg (sp_call en125 (f125_ok e_6) ⟨od rfl, od rfl, trivial⟩)) ?_
  refine sc (sg (sp_move (od rfl))) ?_
  refine sc (sg (sp_len Try.underlying27 (od rfl))) ?_
  refine sc (sg (sp_move (od rfl))) ?_
  refine sc (sg (sp_len Try.underlying27 (od rfl))) ?_
  refine sc (sg (sp_call en125 (f125_ok e_8) ⟨od rfl, od rfl, trivial⟩)) ?_
  refine sc (sg (sp_move (od rfl))) ?_
  refine sc (sg (sp_move (od rfl))) ?_
  refine sc (sg (sp_call en94 (f94_ok e_10) ⟨od rfl, od rfl, trivial⟩)) ?_
  refine sc (sg (sp_buildSlice [.tmp 17, .tmp 22, .tmp 25] ([v_5, v_7, v_9] : List Int) sl27 ze3 rfl rfl rfl rfl ⟨od rfl, od rfl, od rfl, trivial⟩)) ?_
  refine sc (sg (sp_call en124 (f124_ok e_12) ⟨od rfl, trivial⟩)) ?_
  refine sc (sg (sp_lss (od rfl) (odi))) ?_
  refine sc (sg (sp_assign (od rfl))) ?_
  refine sn fun a w hS => ?_
  refine exit_then ?_
  refine wp_ret ?_
  cases h
  exact st_ret hS (run_results1 Try.results117 a w) (hS.get rfl)

theorem f78_ok {p0 : S_keeper_want} {p1 : S_api_Market} {r : S_keeper_choice} (h : M.f78 p0 p1 = some r) : CallOK Try.prog 78 [isV p0, isV p1] (isV r) := by
  unfold M.f78 at h
  refine callS_of Try.func78 rfl Try.ntmps78 rfl fun F0 w0 a hS => ?_
  refine wp_seq ?_
  refine l_start ?_
  refine s_c hS (sg (sp_box (od rfl))) rfl fun a w hS hM => ?_
  refine s_c hS (sg (sp_box (od rfl))) rfl fun a w hS hM => ?_
  refine s_alloc zi108 hS rfl fun a w b_1 hS hM => ?_
  have hS : St _ F0 [Item.box (α := S_keeper_choice) 108 b_1 ((false, 0, 0) : S_keeper_choice)] _ w0 _ _ := hS
  refine l_end ?_
  refine exit_then ?_
  refine wp_seq ?_
  refine wp_seq ?_
  obtain ⟨v_2, e_3, h⟩ := bind_some h
  refine st_reg mixed (by kernel_rfl) hS ?_
  refine sc (sg (sp_fieldAddr fd24_2 (od rfl))) ?_
  refine sc (sg (sp_load ty22 (od rfl))) ?_
  refine sc (sg (sp_len Try.underlying22 (od rfl))) ?_
  refine sc (sg (sp_shl (odi) (od rfl) e_3)) ?_
  refine sc (sg (sp_move (odi))) ?_
  refine sn fun a w hS => ?_
  refine exit_then ?_
  refine wp_block ?_
  obtain ⟨o_7, e_8, hr_9⟩ := bind_some h
  refine c_loop (fun K a w => ∃ k i_4 s_6, K = k + 1 ∧ ForT _ _ _ o_7 k i_4 s_6 ∧ St 36 F0 [Item.box (α := S_keeper_choice) 108 b_1 s_6] [(2, isA (α := S_keeper_want) p0), (3, isA (α := S_api_Market) p1), (4, Pr.ptr b_1), (10, isV (α := Int) v_2), (11, isV (α := Int) i_4)] w0 a w) ?_ ?_ ⟨_, _, _, rfl, fors_init e_8, hS.weak ⟨od rfl, od rfl, od rfl, od rfl, od rfl, trivial⟩⟩
  · rintro a w ⟨_, _, _, hk, _⟩; cases hk
  rintro K a w ⟨k_7, i_4, s_6, hk, hF_7, hS⟩
  obtain rfl := Nat.succ.inj hk
  refine wp_seq ?_
  refine st_reg mixed (by kernel_rfl) hS ?_
  refine sc (sg (sp_lss (od rfl) (od rfl))) ?_
  refine sn fun a w hS => ?_
  refine exit_then ?_
  refine wp_seq ?_
  refine st_cond hS rfl (fun hb => ?_) (fun hb => ?_)
  · refine wp_skip ?_
    refine exit_then ?_
    obtain ⟨k_7, s', rfl, h, hF_7, hw_7⟩ := fors_more hF_7 hb
    refine wp_seq ?_
    refine wp_block ?_
    refine wp_seq ?_
    refine st_reg mixed (by kernel_rfl) hS ?_
    refine sc (sg (sp_move (od rfl))) ?_
    refine sc (sg (sp_assign (od rfl))) ?_
    refine sn fun a w hS => ?_
    refine exit_then ?_
    refine wp_seq ?_
    obtain ⟨v_10, e_11, h⟩ := bind_some h
    refine l_start ?_
    refine s_c hS (sg (sp_move (od rfl))) rfl fun a w hS hM => ?_
    refine s_c hS (sg (sp_load ty24 (od rfl))) rfl fun a w hS hM => ?_
    refine s_c hS (sg (sp_call en82 (f82_ok e_11) ⟨od rfl, od rfl, trivial⟩)) rfl fun a w hS hM => ?_
    refine s_c hS (sg (sp_move (od rfl))) rfl fun a w hS hM => ?_
    refine s_c hS (sg (bd108_012 (odb) (od rfl) (od rfl))) rfl fun a w hS hM => ?_
    refine s_allocStore ze108 hS (od rfl) (fun k hk => by cases hk; rfl) rfl fun a w hS hM => ?_
    refine l_end ?_
    refine exit_then ?_
    refine wp_seq ?_
    have hS := st_box 0 4 hS rfl rfl
    obtain ⟨v_12, e_13, h⟩ := bind_some h
    obtain ⟨v_14, e_15, h⟩ := bind_some h
    refine st_reg mixed (by kernel_rfl) hS ?_
    refine sc (sg (sp_loadB ty108 (odB rfl))) ?_
    refine sc (sg (bd108_ )) ?_
    refine sc (sg (sp_eqlS eq108 rfl eg108 rfl (od rfl) (od rfl))) ?_
    refine sc (sg (sp_move (od rfl))) ?_
    refine sc (sgF rfl fun hG => sp_load ty108 (od rfl)) ?_
    refine sc (sgF rfl fun hG => sp_loadB ty108 (odB rfl)) ?_
    refine sc (sgF rfl fun hG => sp_call en117 (f117_ok (guard_some e_13 hG)) ⟨odw rfl hG, odw rfl hG, trivial⟩) ?_
    refine sc (sg (sp_pickOr (od rfl) fun hg => odw rfl (not_t hg))) ?_
    refine sc (sg (sp_move (od rfl))) ?_
    refine sc (sgT rfl fun hG => sp_fieldAddr fd97_0 (od rfl)) ?_
    refine sc (sgT rfl fun hG => sp_load ty95 (odw rfl hG)) ?_
    refine sc (sgT rfl fun hG => sp_move (od rfl)) ?_
    refine sc (sgT rfl fun hG => sp_callV (od_fn95 (odw rfl hG)) ⟨odw rfl hG, trivial⟩ (guard_some e_15 hG)) ?_
    refine sc (sg (sp_pickAnd (od rfl) fun hg => odw rfl hg)) ?_
    refine sn fun a w hS => ?_
    refine exit_then ?_
    obtain ⟨y_17, hj_16, h⟩ := bind_some h
    refine wp_mono (Q := fun e a w => e = Exit.normal ∧ St 36 F0 [Item.box (α := S_keeper_choice) 108 b_1 y_17] [(2, isA (α := S_keeper_want) p0), (3, isA (α := S_api_Market) p1), (4, Pr.ptr b_1), (10, isV (α := Int) v_2), (11, isV (α := Int) i_4)] w0 a w) ?_ ?_
    · refine st_cond hS rfl (fun hb => ?_) (fun hb => ?_)
      · have h := ite_t hb hj_16
        refine l_start ?_
        refine s_c hS (sg (sp_load ty108 (od rfl))) rfl fun a w hS hM => ?_
        refine s_storeB (k := 0) (Δ := [(2, isA (α := S_keeper_want) p0), (3, isA (α := S_api_Market) p1), (4, Pr.ptr b_1), (10, isV (α := Int) v_2), (11, isV (α := Int) i_4), (33, isV (α := S_keeper_choice) ((true, v_10, i_4) : S_keeper_choice))]) ty108 hS rfl ⟨od rfl, od rfl, odBx rfl, od rfl, od rfl, od rfl, trivial⟩ ⟨fun _ _ _ _ h => h, fun _ _ _ _ h => h, fun _ _ _ _ h => h, fun _ _ _ _ h => h, fun _ _ _ _ h => h, fun _ _ _ _ h => h, trivial⟩ rfl (od rfl) fun w hS hM => ?_
        have hS : St _ F0 [Item.box (α := S_keeper_choice) 108 b_1 ((true, v_10, i_4) : S_keeper_choice)] _ w0 _ _ := hS
        refine l_end ?_
        cases h
        exact ⟨rfl, hS.weak ⟨od rfl, od rfl, od rfl, od rfl, od rfl, trivial⟩⟩
      · have h := ite_f hb hj_16
        refine wp_skip ?_
        cases h
        exact ⟨rfl, hS.weak ⟨od rfl, od rfl, odBx rfl, od rfl, od rfl, trivial⟩⟩
    rintro e a w ⟨rfl, hS⟩
    refine exit_block ?_
    refine exit_then ?_
    refine st_reg mixed (by kernel_rfl) hS ?_
    refine sc (sg (sp_add (od rfl) (odi))) ?_
    refine sc (sg (sp_move (od rfl))) ?_
    refine sn fun a w hS => ?_
    cases h
    exact ⟨k_7, _, _, rfl, hF_7, hS.weak ⟨od rfl, od rfl, od rfl, od rfl, od (congrArg (fun z => some (isV (α := Int) z)) hw_7), trivial⟩⟩
  · refine wp_exit ?_
    obtain rfl := (fors_done hF_7 hb).symm
    have h := hr_9
    refine exit_thenE ?_
    refine exit_thenE ?_
    refine exit_here ?_
    refine exit_then ?_
    refine wp_seq ?_
    refine l_start ?_
    have hS := st_box 0 4 hS rfl rfl
    refine s_c hS (sg (sp_loadB ty108 (odB rfl))) rfl fun a w hS hM => ?_
    refine s_storeB (k := 0) (Δ := [(4, Pr.ptr b_1), (35, isV (α := S_keeper_choice) s_6)]) ty108 hS rfl ⟨odBx rfl, od rfl, trivial⟩ ⟨fun _ _ _ _ h => h, fun _ _ _ _ h => h, trivial⟩ rfl (od rfl) fun w hS hM => ?_
    have hS : St _ F0 [Item.box (α := S_keeper_choice) 108 b_1 s_6] _ w0 _ _ := hS
    refine l_end ?_
    refine exit_then ?_
    refine wp_ret ?_
    have hS := st_freezeB 0 4 hS rfl rfl
    cases h
    obtain ⟨v, hr, hv⟩ := run_resC1 Try.results78 ty108 (hS.get rfl)
    exact st_ret hS hr hv

theorem f85_ok {p0 : S_keeper_choice} {r : (List Int) × Bool × Int} (h : M.f85 p0 = some r) : CallOK Try.prog 85 [isV p0] (isTup [isV r.1, isV r.2.1, isV r.2.2]) := by
  unfold M.f85 at h
  refine callS_of Try.func85 rfl Try.ntmps85 rfl fun F0 w0 a hS => ?_
  refine wp_seq ?_
  refine st_reg mixed (by kernel_rfl) hS ?_
  refine sc (sg (sp_box (od rfl))) ?_
  refine sc (sg (sp_assign (odnil (α := Int)))) ?_
  refine sc (sg (sp_assign (odb))) ?_
  refine sc (sg (sp_assign (odi))) ?_
  refine sn fun a w hS => ?_
  refine exit_then ?_
  refine wp_seq ?_
  refine wp_seq ?_
  refine st_reg mixed (by kernel_rfl) hS ?_
  refine sc (sg (sp_load ty108 (od rfl))) ?_
  refine sc (sg (bd108_ )) ?_
  refine sc (sg (sp_eqlS eq108 rfl eg108 rfl (od rfl) (od rfl))) ?_
  refine sn fun a w hS => ?_
  refine exit_then ?_
  refine st_cond hS rfl (fun hb => ?_) (fun hb => ?_)
  · have h := ite_t hb h
    refine wp_seq ?_
    refine st_reg mixed (by kernel_rfl) hS ?_
    refine sc (sg (sp_assign (odnil (α := Int)))) ?_
    refine sc (sg (sp_assign (odb))) ?_
    refine sc (sg (sp_assign (odi))) ?_
    refine sn fun a w hS => ?_
    refine exit_then ?_
    refine wp_ret ?_
    refine exit_thenR ?_
    cases h
    exact st_ret hS (run_results3 Try.results85 a w) (⟨_, rfl, hS.get rfl, hS.get rfl, hS.get rfl, trivial⟩)
  · have h := ite_f hb h
    refine wp_skip ?_
    refine exit_then ?_
    refine wp_seq ?_
    obtain ⟨v_1, e_2, h⟩ := bind_some h
    refine st_reg mixed (by kernel_rfl) hS ?_
    refine sc (sg (sp_fieldAddr fd108_2 (od rfl))) ?_
    refine sc (sg (sp_load ty99 (od rfl))) ?_
    refine sc (sg (sp_call en118 (f118_ok e_2) ⟨od rfl, trivial⟩)) ?_
    refine sc (sg (sp_assign (od rfl))) ?_
    refine sc (sg (sp_assign (odb))) ?_
    refine sc (sg (sp_assign (odi))) ?_
    refine sn fun a w hS => ?_
    refine exit_then ?_
    refine wp_ret ?_
    cases h
    exact st_ret hS (run_results3 Try.results85 a w) (⟨_, rfl, hS.get rfl, hS.get rfl, hS.get rfl, trivial⟩)

theorem f25_ok {p0 : S_api_Market} {p1 : Int} {p2 : Int} {p3 : Int} {r : (List Int) × Bool × Int} (h : M.f25 p0 p1 p2 p3 = some r) : CallOK Try.prog 25 [isV p0, isV p1, isV p2, isV p3] (isTup [isV r.1, isV r.2.1, isV r.2.2]) := by
  unfold M.f25 at h
  refine callS_of Try.func25 rfl Try.ntmps25 rfl fun F0 w0 a hS => ?_
  refine wp_seq ?_
  refine st_reg mixed (by kernel_rfl) hS ?_
  refine sc (sg (sp_box (od rfl))) ?_
  refine sc (sg (sp_assign (odnil (α := Int)))) ?_
  refine sc (sg (sp_assign (odb))) ?_
  refine sc (sg (sp_assign (odi))) ?_
  refine sn fun a w hS => ?_
  refine exit_then ?_
  refine wp_seq ?_
  refine wp_seq ?_
  obtain ⟨v_1, e_2, h⟩ := bind_some h
  refine st_reg mixed (by kernel_rfl) hS ?_
  refine sc (sg (sp_load ty24 (od rfl))) ?_
  refine sc (sg (sp_move (od rfl))) ?_
  refine sc (sg (sp_move (od rfl))) ?_
  refine sc (sg (sp_buildSlice [.tmp 13, .tmp 14] ([p1, p2] : List Int) sl27 ze3 rfl rfl rfl rfl ⟨od rfl, od rfl, trivial⟩)) ?_
  refine sc (sg (sp_move (od rfl))) ?_
  refine sc (sg (sp_buildSlice [.tmp 16] ([p3] : List Int) sl27 ze3 rfl rfl rfl rfl ⟨od rfl, trivial⟩)) ?_
  refine sc (sg (bd106_01 (od rfl) (od rfl))) ?_
  refine sc (sg (sp_call en76 (f76_ok e_2) ⟨od rfl, odnil (α := Int), od rfl, trivial⟩)) ?_
  refine sc (sg (sp_assign (od rfl))) ?_
  refine sn fun a w hS => ?_
  refine exit_then ?_
  refine wp_seq ?_
  refine st_reg mixed (by kernel_rfl) hS ?_
  refine sc (sg (sp_move (od rfl))) ?_
  refine sc (sg (sp_neq (od rfl) (odi))) ?_
  refine sn fun a w hS => ?_
  refine exit_then ?_
  refine st_cond hS rfl (fun hb => ?_) (fun hb => ?_)
  · have h := ite_t hb h
    refine wp_seq ?_
    refine st_reg mixed (by kernel_rfl) hS ?_
    refine sc (sg (sp_move (od rfl))) ?_
    refine sc (sg (sp_assign (odnil (α := Int)))) ?_
    refine sc (sg (sp_assign (odb))) ?_
    refine sc (sg (sp_assign (od rfl))) ?_
    refine sn fun a w hS => ?_
    refine exit_then ?_
    refine wp_ret ?_
    refine exit_thenR ?_
    cases h
    exact st_ret hS (run_results3 Try.results25 a w) (⟨_, rfl, hS.get rfl, hS.get rfl, hS.get rfl, trivial⟩)
  · have h := ite_f hb h
    refine wp_skip ?_
    refine exit_then ?_
    refine wp_seq ?_
    obtain ⟨v_3, e_4, h⟩ := bind_some h
    obtain ⟨v_5, e_6, h⟩ := bind_some h
    obtain ⟨v_7, e_8, h⟩ := bind_some h
    refine st_reg mixed (by kernel_rfl) hS ?_
    refine sc (sg (sp_load ty24 (od rfl))) ?_
    refine sc (sg (sp_move (od rfl))) ?_
    refine sc (sg (sp_move (od rfl))) ?_
    refine sc (sg (sp_move (od rfl))) ?_
    refine sc (sg (sp_call en70 (f70_ok e_4) ⟨od rfl, od rfl, od rfl, od rfl, trivial⟩)) ?_
    refine sc (sg (sp_load ty24 (od rfl))) ?_
    refine sc (sg (sp_call en78 (f78_ok e_6) ⟨od rfl, od rfl, trivial⟩)) ?_
    refine sc (sg (sp_call en85 (f85_ok e_8) ⟨od rfl, trivial⟩)) ?_
    refine sc (sg (sp_extract (od rfl) rfl)) ?_
    refine sc (sg (sp_extract (od rfl) rfl)) ?_
    refine sc (sg (sp_extract (od rfl) rfl)) ?_
    refine sc (sg (sp_assign (od rfl))) ?_
    refine sc (sg (sp_assign (od rfl))) ?_
    refine sc (sg (sp_assign (od rfl))) ?_
    refine sn fun a w hS => ?_
    refine exit_then ?_
    refine wp_ret ?_
    cases h
    exact st_ret hS (run_results3 Try.results25 a w) (⟨_, rfl, hS.get rfl, hS.get rfl, hS.get rfl, trivial⟩)

theorem f24_ok {p0 : List Int} {p1 : List Int} {r : Bool} (h : M.f24 p0 p1 = some r) : CallOK Try.prog 24 [isV p0, isV p1] (isV r) := by
  unfold M.f24 at h
  refine callS_of Try.func24 rfl Try.ntmps24 rfl fun F0 w0 a hS => ?_
  refine wp_seq ?_
  refine st_reg mixed (by kernel_rfl) hS ?_
  refine sc (sg (sp_assign (odb))) ?_
  refine sn fun a w hS => ?_
  refine exit_then ?_
  refine wp_seq ?_
  refine wp_seq ?_
  refine st_reg mixed (by kernel_rfl) hS ?_
  refine sc (sg (sp_move (od rfl))) ?_
  refine sc (sg (sp_len Try.underlying27 (od rfl))) ?_
  refine sc (sg (sp_move (od rfl))) ?_
  refine sc (sg (sp_len Try.underlying27 (od rfl))) ?_
  refine sc (sg (sp_neq (od rfl) (od rfl))) ?_
  refine sn fun a w hS => ?_
  refine exit_then ?_
  refine st_cond hS rfl (fun hb => ?_) (fun hb => ?_)
  · have h := ite_t hb h
    refine wp_seq ?_
    refine st_reg mixed (by kernel_rfl) hS ?_
    refine sc (sg (sp_assign (odb))) ?_
    refine sn fun a w hS => ?_
    refine exit_then ?_
    refine wp_ret ?_
    refine exit_thenR ?_
    cases h
    exact st_ret hS (run_results1 Try.results24 a w) (hS.get rfl)
  · have h := ite_f hb h
    refine wp_skip ?_
    refine exit_then ?_
    refine wp_seq ?_
    refine wp_seq ?_
    refine st_reg mixed (by kernel_rfl) hS ?_
    refine sc (sg (sp_move (od rfl))) ?_
    refine sc (sg (sp_len Try.underlying27 (od rfl))) ?_
    refine sc (sg (sp_move (odi))) ?_
    refine sn fun a w hS => ?_
    refine exit_then ?_
    refine wp_block ?_
    obtain ⟨o_4, e_5, hr_6⟩ := bind_some h
    refine c_loop (fun K a w => ∃ k i_1 s_3, K = k + 1 ∧ ForI _ _ _ o_4 k i_1 s_3 ∧ St 26 F0 [] [(0, isV (α := List Int) p0), (1, isV (α := List Int) p1), (12, isV (α := Int) (p0.length : Int)), (13, isV (α := Int) i_1)] w0 a w) ?_ ?_ ⟨_, _, _, rfl, for_init e_5, hS.weak ⟨od rfl, od rfl, od rfl, od rfl, trivial⟩⟩
    · rintro a w ⟨_, _, _, hk, _⟩; cases hk
    rintro K a w ⟨k_4, i_1, s_3, hk, hF_4, hS⟩
    obtain rfl := Nat.succ.inj hk
    refine wp_seq ?_
    refine st_reg mixed (by kernel_rfl) hS ?_
    refine sc (sg (sp_lss (od rfl) (od rfl))) ?_
    refine sn fun a w hS => ?_
    refine exit_then ?_
    refine wp_seq ?_
    refine st_cond hS rfl (fun hb => ?_) (fun hb => ?_)
    · refine wp_skip ?_
      refine exit_then ?_
      obtain ⟨k_4, o, rfl, h, hN_4, hL_4, hw_4⟩ := for_more hF_4 hb
      refine wp_seq ?_
      refine wp_block ?_
      refine wp_seq ?_
      refine st_reg mixed (by kernel_rfl) hS ?_
      refine sc (sg (sp_move (od rfl))) ?_
      refine sc (sg (sp_assign (od rfl))) ?_
      refine sn fun a w hS => ?_
      refine exit_then ?_
      refine wp_seq ?_
      obtain ⟨v_7, e_8, h⟩ := bind_some h
      obtain ⟨v_9, e_10, h⟩ := bind_some h
      refine st_reg mixed (by kernel_rfl) hS ?_
      refine sc (sg (sp_move (od rfl))) ?_
      refine sc (sg (sp_move (od rfl))) ?_
      refine sc (sg (sp_indexAddr sl27 (od rfl) (od rfl) e_8)) ?_
      refine sc (sg (sp_load ty3 (od rfl))) ?_
      refine sc (sg (sp_move (od rfl))) ?_
      refine sc (sg (sp_move (od rfl))) ?_
      refine sc (sg (sp_indexAddr sl27 (od rfl) (od rfl) e_10)) ?_
      refine sc (sg (sp_load ty3 (od rfl))) ?_
      refine sc (sg (sp_neq (od rfl) (od rfl))) ?_
      refine sn fun a w hS => ?_
      refine exit_then ?_
      refine st_cond hS rfl (fun hb => ?_) (fun hb => ?_)
      · have h := ite_t hb h
        refine wp_seq ?_
        refine st_reg mixed (by kernel_rfl) hS ?_
        refine sc (sg (sp_assign (odb))) ?_
        refine sn fun a w hS => ?_
        refine exit_then ?_
        refine wp_ret ?_
        refine exit_blockR ?_
        refine exit_thenR ?_
        cases h
        obtain rfl := hL_4 _ rfl
        have h := (elim_leave hr_6)
        refine exit_thenR ?_
        refine exit_blockR ?_
        refine exit_thenR ?_
        cases h
        exact st_ret hS (run_results1 Try.results24 a w) (hS.get rfl)
      · have h := ite_f hb h
        refine wp_skip ?_
        refine exit_block ?_
        refine exit_then ?_
        refine st_reg mixed (by kernel_rfl) hS ?_
        refine sc (sg (sp_add (od rfl) (odi))) ?_
        refine sc (sg (sp_move (od rfl))) ?_
        refine sn fun a w hS => ?_
        cases h
        exact ⟨k_4, _, _, rfl, hN_4 _ rfl, hS.weak ⟨od rfl, od rfl, od rfl, od (congrArg (fun z => some (isV (α := Int) z)) hw_4), trivial⟩⟩
    · refine wp_exit ?_
      obtain rfl := for_done hF_4 hb
      have h := elim_again hr_6
      refine exit_thenE ?_
      refine exit_thenE ?_
      refine exit_here ?_
      refine exit_then ?_
      refine wp_seq ?_
      refine st_reg mixed (by kernel_rfl) hS ?_
      refine sc (sg (sp_assign (odb))) ?_
      refine sn fun a w hS => ?_
      refine exit_then ?_
      refine wp_ret ?_
      cases h
      exact st_ret hS (run_results1 Try.results24 a w) (hS.get rfl)

end Go.Proofs.Ytkbilbeaedocjaa
