/-
  What is proved: each Go function named here returns what its model tells, and changes nothing that was there; where the model tells something.
-/
import Derived.Test.YtkbilbeaedocjaaWalkB1
import Derived.Test.YtkbilbeaedocjaaModelB2
set_option linter.unusedVariables false
set_option maxRecDepth 100000
namespace Go.Proofs.Ytkbilbeaedocjaa
open Go Go.RowKit Go.Proofs.Ytkbilbeaedocjaa.Wh

theorem f36_ok {fuel : Nat} {p0 : List (List (Vector Int 2))} {p1 : List (List (Vector Int 2))} {r : Bool} (h : M.f36 fuel p0 p1 = some r) : CallOK Try.prog 36 [isV p0, isV p1] (isV r) := by
  unfold M.f36 at h
  refine callS_of Try.func36 rfl Try.ntmps36 rfl fun F0 w0 a hS => ?_
  refine wp_seq ?_
  refine st_reg mixed (by kernel_rfl) hS ?_
  refine sc (sg (sp_assign (odb))) ?_
  refine sn fun a w hS => ?_
  refine exit_then ?_
  refine wp_seq ?_
  refine wp_seq ?_
  refine st_reg mixed (by kernel_rfl) hS ?_
  refine sc (sg (sp_move (od rfl))) ?_
  refine sc (sg (sp_len Try.underlying44 (od rfl))) ?_
  refine sc (sg (sp_move (od rfl))) ?_
  refine sc (sg (sp_len Try.underlying44 (od rfl))) ?_
  refine sc (sg (sp_neq (od rfl) (od rfl))) ?_
  refine sn fun a w hS => ?_
  refine exit_then ?_
  refine st_cond hS rfl (fun hb => ?_) (fun hb => ?_)
  · have h := ite_t hb h
    refine wp_seq ?_
    refine st_reg mixed (by kernel_rfl) hS ?_
    refine sc (sg (sp_assign (odb))) ?_
    refine sn fun a w hS => ?_
    refine exit_then ?_
    refine wp_ret ?_
    refine exit_thenR ?_
    cases h
    exact st_ret hS (run_results1 Try.results36 a w) (hS.get rfl)
  · have h := ite_f hb h
    refine wp_skip ?_
    refine exit_then ?_
    refine wp_seq ?_
    refine wp_seq ?_
    refine st_reg mixed (by kernel_rfl) hS ?_
    refine sc (sg (sp_assign (odi))) ?_
    refine sn fun a w hS => ?_
    refine exit_then ?_
    refine wp_block ?_
    obtain ⟨o_2, e_3, hr_4⟩ := bind_some h
    refine c_loop (fun K a w => ∃ s_1 : Int, loopM _ K s_1 = some o_2 ∧ St 53 F0 [] [(0, isV (α := List (List (Vector Int 2))) p0), (1, isV (α := List (List (Vector Int 2))) p1), (5, isV (α := Int) s_1)] w0 a w) ?_ ?_ ⟨_, e_3, hS.weak ⟨od rfl, od rfl, od rfl, trivial⟩⟩
    · rintro a w ⟨_, hk, _⟩; cases hk
    rintro K a w ⟨s_1, hF_2, hS⟩
    obtain ⟨o, h, hN_2, hL_2⟩ := loop_more hF_2
    refine wp_seq ?_
    refine wp_seq ?_
    refine st_reg mixed (by kernel_rfl) hS ?_
    refine sc (sg (sp_move (od rfl))) ?_
    refine sc (sg (sp_move (od rfl))) ?_
    refine sc (sg (sp_len Try.underlying44 (od rfl))) ?_
    refine sc (sg (sp_lss (od rfl) (od rfl))) ?_
    refine sn fun a w hS => ?_
    refine exit_then ?_
    refine st_cond hS rfl (fun hb => ?_) (fun hb => ?_)
    · have h := ite_t hb h
      refine wp_skip ?_
      refine exit_then ?_
      refine wp_seq ?_
      refine wp_block ?_
      refine wp_seq ?_
      refine wp_seq ?_
      obtain ⟨v_5, e_6, h⟩ := bind_some h
      obtain ⟨v_7, e_8, h⟩ := bind_some h
      refine st_reg mixed (by kernel_rfl) hS ?_
      refine sc (sg (sp_move (od rfl))) ?_
      refine sc (sg (sp_move (od rfl))) ?_
      refine sc (sg (sp_indexAddr sl44 (od rfl) (od rfl) e_6)) ?_
      refine sc (sg (sp_load ty48 (od rfl))) ?_
      refine sc (sg (sp_len Try.underlying48 (od rfl))) ?_
      refine sc (sg (sp_move (od rfl))) ?_
      refine sc (sg (sp_move (od rfl))) ?_
      refine sc (sg (sp_indexAddr sl44 (od rfl) (od rfl) e_8)) ?_
      refine sc (sg (sp_load ty48 (od rfl))) ?_
      refine sc (sg (sp_len Try.underlying48 (od rfl))) ?_
      refine sc (sg (sp_neq (od rfl) (od rfl))) ?_
      refine sn fun a w hS => ?_
      refine exit_then ?_
      refine st_cond hS rfl (fun hb => ?_) (fun hb => ?_)
      · have h := ite_t hb h
        refine wp_seq ?_
        refine st_reg mixed (by kernel_rfl) hS ?_
        refine sc (sg (sp_assign (odb))) ?_
        refine sn fun a w hS => ?_
        refine exit_then ?_
        refine wp_ret ?_
        refine exit_thenR ?_
        refine exit_blockR ?_
        refine exit_thenR ?_
        cases h
        obtain rfl := hL_2 _ rfl
        have h := (sum_inr hr_4)
        refine exit_thenR ?_
        refine exit_blockR ?_
        refine exit_thenR ?_
        cases h
        exact st_ret hS (run_results1 Try.results36 a w) (hS.get rfl)
      · have h := ite_f hb h
        refine wp_skip ?_
        refine exit_then ?_
        refine wp_seq ?_
        refine st_reg mixed (by kernel_rfl) hS ?_
        refine sc (sg (sp_assign (odi))) ?_
        refine sn fun a w hS => ?_
        refine exit_then ?_
        refine wp_block ?_
        obtain ⟨o_10, e_11, hr_12⟩ := bind_some h
        refine c_loop (fun K a w => ∃ s_9 : Int, loopM _ K s_9 = some o_10 ∧ St 53 F0 [] [(0, isV (α := List (List (Vector Int 2))) p0), (1, isV (α := List (List (Vector Int 2))) p1), (5, isV (α := Int) s_1), (6, isV (α := Int) s_9)] w0 a w) ?_ ?_ ⟨_, e_11, hS.weak ⟨od rfl, od rfl, od rfl, od rfl, trivial⟩⟩
        · rintro a w ⟨_, hk, _⟩; cases hk
        rintro K a w ⟨s_9, hF_10, hS⟩
        obtain ⟨o, h, hN_10, hL_10⟩ := loop_more hF_10
        refine wp_seq ?_
        refine wp_seq ?_
        obtain ⟨v_13, e_14, h⟩ := bind_some h
        refine st_reg mixed (by kernel_rfl) hS ?_
        refine sc (sg (sp_move (od rfl))) ?_
        refine sc (sg (sp_move (od rfl))) ?_
        refine sc (sg (sp_move (od rfl))) ?_
        refine sc (sg (sp_indexAddr sl44 (od rfl) (od rfl) e_14)) ?_
        refine sc (sg (sp_load ty48 (od rfl))) ?_
        refine sc (sg (sp_len Try.underlying48 (od rfl))) ?_
        refine sc (sg (sp_lss (od rfl) (od rfl))) ?_
        refine sn fun a w hS => ?_
        refine exit_then ?_
        refine st_cond hS rfl (fun hb => ?_) (fun hb => ?_)
        · have h := ite_t hb h
          refine wp_skip ?_
          refine exit_then ?_
          refine wp_seq ?_
          refine wp_block ?_
          refine wp_seq ?_
          obtain ⟨v_15, e_16, h⟩ := bind_some h
          obtain ⟨v_17, e_18, h⟩ := bind_some h
          obtain ⟨v_19, e_20, h⟩ := bind_some h
          obtain ⟨v_21, e_22, h⟩ := bind_some h
          refine st_reg mixed (by kernel_rfl) hS ?_
          refine sc (sg (sp_move (od rfl))) ?_
          refine sc (sg (sp_move (od rfl))) ?_
          refine sc (sg (sp_indexAddr sl44 (od rfl) (od rfl) e_16)) ?_
          refine sc (sg (sp_load ty48 (od rfl))) ?_
          refine sc (sg (sp_move (od rfl))) ?_
          refine sc (sg (sp_indexAddr sl48 (od rfl) (od rfl) e_18)) ?_
          refine sc (sg (sp_load ty54 (od rfl))) ?_
          refine sc (sg (sp_move (od rfl))) ?_
          refine sc (sg (sp_move (od rfl))) ?_
          refine sc (sg (sp_indexAddr sl44 (od rfl) (od rfl) e_20)) ?_
          refine sc (sg (sp_load ty48 (od rfl))) ?_
          refine sc (sg (sp_move (od rfl))) ?_
          refine sc (sg (sp_indexAddr sl48 (od rfl) (od rfl) e_22)) ?_
          refine sc (sg (sp_load ty54 (od rfl))) ?_
          refine sc (sg (sp_neqS eq54 rfl eg54 rfl (od rfl) (od rfl))) ?_
          refine sn fun a w hS => ?_
          refine exit_then ?_
          refine st_cond hS rfl (fun hb => ?_) (fun hb => ?_)
          · have h := ite_t hb h
            refine wp_seq ?_
            refine st_reg mixed (by kernel_rfl) hS ?_
            refine sc (sg (sp_assign (odb))) ?_
            refine sn fun a w hS => ?_
            refine exit_then ?_
            refine wp_ret ?_
            refine exit_blockR ?_
            refine exit_thenR ?_
            cases h
            obtain rfl := hL_10 _ rfl
            have h := (sum_inr hr_12)
            refine exit_thenR ?_
            refine exit_blockR ?_
            refine exit_blockR ?_
            refine exit_thenR ?_
            cases h
            obtain rfl := hL_2 _ rfl
            have h := (sum_inr hr_4)
            refine exit_thenR ?_
            refine exit_blockR ?_
            refine exit_thenR ?_
            cases h
            exact st_ret hS (run_results1 Try.results36 a w) (hS.get rfl)
          · have h := ite_f hb h
            refine wp_skip ?_
            refine exit_block ?_
            refine exit_then ?_
            refine st_reg mixed (by kernel_rfl) hS ?_
            refine sc (sg (sp_move (od rfl))) ?_
            refine sc (sg (sp_add (od rfl) (odi))) ?_
            refine sc (sg (sp_assign (od rfl))) ?_
            refine sn fun a w hS => ?_
            cases h
            exact ⟨_, hN_10 _ rfl, hS.weak ⟨od rfl, od rfl, od rfl, od rfl, trivial⟩⟩
        · have h := ite_f hb h
          refine wp_exit ?_
          refine exit_thenE ?_
          cases h
          obtain rfl := hL_10 _ rfl
          have h := (sum_inl hr_12)
          refine exit_thenE ?_
          refine exit_here ?_
          refine exit_block ?_
          refine exit_then ?_
          refine st_reg mixed (by kernel_rfl) hS ?_
          refine sc (sg (sp_move (od rfl))) ?_
          refine sc (sg (sp_add (od rfl) (odi))) ?_
          refine sc (sg (sp_assign (od rfl))) ?_
          refine sn fun a w hS => ?_
          cases h
          exact ⟨_, hN_2 _ rfl, hS.weak ⟨od rfl, od rfl, od rfl, trivial⟩⟩
    · have h := ite_f hb h
      refine wp_exit ?_
      refine exit_thenE ?_
      cases h
      obtain rfl := hL_2 _ rfl
      have h := (sum_inl hr_4)
      refine exit_thenE ?_
      refine exit_here ?_
      refine exit_then ?_
      refine wp_seq ?_
      refine st_reg mixed (by kernel_rfl) hS ?_
      refine sc (sg (sp_assign (odb))) ?_
      refine sn fun a w hS => ?_
      refine exit_then ?_
      refine wp_ret ?_
      cases h
      exact st_ret hS (run_results1 Try.results36 a w) (hS.get rfl)

theorem f18_ok {p0 : S_api_Market} {p1 : Int} {p2 : Int} {p3 : Int} {r : (List Int) × Int} (h : M.f18 p0 p1 p2 p3 = some r) : CallOK Try.prog 18 [isV p0, isV p1, isV p2, isV p3] (isTup [isV r.1, isV r.2]) := by
  unfold M.f18 at h
  refine callS_of Try.func18 rfl Try.ntmps18 rfl fun F0 w0 a hS => ?_
  refine wp_seq ?_
  refine st_reg mixed (by kernel_rfl) hS ?_
  refine sc (sg (sp_box (od rfl))) ?_
  refine sc (sg (sp_assign (odnil (α := Int)))) ?_
  refine sc (sg (sp_assign (odi))) ?_
  refine sn fun a w hS => ?_
  refine exit_then ?_
  refine wp_seq ?_
  refine wp_seq ?_
  obtain ⟨v_1, e_2, h⟩ := bind_some h
  refine st_reg mixed (by kernel_rfl) hS ?_
  refine sc (sg (sp_load ty24 (od rfl))) ?_
  refine sc (sg (sp_move (od rfl))) ?_
  refine sc (sg (sp_move (od rfl))) ?_
  refine sc (sg (sp_move (od rfl))) ?_
  refine sc (sg (sp_call en69 (f69_ok e_2) ⟨od rfl, od rfl, od rfl, od rfl, trivial⟩)) ?_
  refine sc (sg (sp_assign (od rfl))) ?_
  refine sn fun a w hS => ?_
  refine exit_then ?_
  refine wp_seq ?_
  refine st_reg mixed (by kernel_rfl) hS ?_
  refine sc (sg (sp_move (od rfl))) ?_
  refine sc (sg (sp_neq (od rfl) (odi))) ?_
  refine sn fun a w hS => ?_
  refine exit_then ?_
  refine st_cond hS rfl (fun hb => ?_) (fun hb => ?_)
  · have h := ite_t hb h
    refine wp_seq ?_
    refine st_reg mixed (by kernel_rfl) hS ?_
    refine sc (sg (sp_move (od rfl))) ?_
    refine sc (sg (sp_assign (odnil (α := Int)))) ?_
    refine sc (sg (sp_assign (od rfl))) ?_
    refine sn fun a w hS => ?_
    refine exit_then ?_
    refine wp_ret ?_
    refine exit_thenR ?_
    cases h
    exact st_ret hS (run_results2 Try.results18 a w) (⟨_, rfl, hS.get rfl, hS.get rfl, trivial⟩)
  · have h := ite_f hb h
    refine wp_skip ?_
    refine exit_then ?_
    refine wp_seq ?_
    obtain ⟨v_3, e_4, h⟩ := bind_some h
    refine l_start ?_
    refine s_c hS (sg (sp_load ty24 (od rfl))) rfl fun a w hS hM => ?_
    refine s_c hS (sg (sp_move (od rfl))) rfl fun a w hS hM => ?_
    refine s_c hS (sg (sp_move (od rfl))) rfl fun a w hS hM => ?_
    refine s_c hS (sg (sp_move (od rfl))) rfl fun a w hS hM => ?_
    refine s_c hS (sg (sp_call en70 (f70_ok e_4) ⟨od rfl, od rfl, od rfl, od rfl, trivial⟩)) rfl fun a w hS hM => ?_
    refine s_allocStore ze97 hS (od rfl) (fun k hk => by cases hk; rfl) rfl fun a w hS hM => ?_
    refine l_end ?_
    refine exit_then ?_
    refine wp_seq ?_
    refine st_reg mixed (by kernel_rfl) hS ?_
    refine sc (sg (sp_assign (φ := Pr.is (.slice none 0 0)) (odc fun _ => rfl))) ?_
    refine sn fun a w hS => ?_
    have hS := st_nil (α := Int) 3 hS
    have hS : St _ F0 [Item.sl (α := Int) 3 (.slice none 0 0) ([] : List Int)] _ w0 _ _ := hS
    refine exit_then ?_
    refine wp_seq ?_
    refine wp_seq ?_
    refine st_reg mixed (by kernel_rfl) hS ?_
    refine sc (sg (sp_fieldAddr fd24_2 (od rfl))) ?_
    refine sc (sg (sp_load ty22 (od rfl))) ?_
    refine sc (sg (sp_len Try.underlying22 (od rfl))) ?_
    refine sc (sg (sp_move (odi))) ?_
    refine sn fun a w hS => ?_
    refine exit_then ?_
    refine wp_block ?_
    obtain ⟨o_8, e_9, hr_10⟩ := bind_some h
    refine c_loop (fun K a w => ∃ k i_5 s_7, ∃ u_11 : Value, K = k + 1 ∧ ForT _ _ _ o_8 k i_5 s_7 ∧ St 48 F0 [Item.sl (α := Int) 3 u_11 s_7] [(4, isA (α := S_api_Market) p0), (11, isA (α := S_keeper_want) v_3), (12, Pr.is u_11), (29, isV (α := Int) (p0.2.2.length : Int)), (30, isV (α := Int) i_5)] w0 a w) ?_ ?_ ⟨_, _, _, (.slice none 0 0), rfl, fors_init e_9, hS.weak ⟨od rfl, od rfl, od rfl, od rfl, od rfl, trivial⟩⟩
    · rintro a w ⟨_, _, _, _, hk, _⟩; cases hk
    rintro K a w ⟨k_8, i_5, s_7, u_11, hk, hF_8, hS⟩
    obtain rfl := Nat.succ.inj hk
    refine wp_seq ?_
    refine st_reg mixed (by kernel_rfl) hS ?_
    refine sc (sg (sp_lss (od rfl) (od rfl))) ?_
    refine sn fun a w hS => ?_
    refine exit_then ?_
    refine wp_seq ?_
    refine st_cond hS rfl (fun hb => ?_) (fun hb => ?_)
    · refine wp_skip ?_
      refine exit_then ?_
      obtain ⟨k_8, s', rfl, h, hF_8, hw_8⟩ := fors_more hF_8 hb
      refine wp_seq ?_
      refine wp_block ?_
      refine wp_seq ?_
      refine st_reg mixed (by kernel_rfl) hS ?_
      refine sc (sg (sp_move (od rfl))) ?_
      refine sc (sg (sp_assign (od rfl))) ?_
      refine sn fun a w hS => ?_
      refine exit_then ?_
      refine wp_seq ?_
      obtain ⟨v_12, e_13, h⟩ := bind_some h
      obtain ⟨v_14, e_15, h⟩ := bind_some h
      obtain ⟨v_16, e_17, h⟩ := bind_some h
      refine st_reg mixed (by kernel_rfl) hS ?_
      refine sc (sg (sp_fieldAddr fd97_0 (od rfl))) ?_
      refine sc (sg (sp_load ty95 (od rfl))) ?_
      refine sc (sg (sp_load ty24 (od rfl))) ?_
      refine sc (sg (sp_call en71 (f71_ok e_13) ⟨od rfl, trivial⟩)) ?_
      refine sc (sg (sp_move (od rfl))) ?_
      refine sc (sg (sp_shl (odi) (od rfl) e_15)) ?_
      refine sc (sg (sp_andNot (od rfl) (od rfl))) ?_
      refine sc (sg (sp_callV (od_fn95 (od rfl)) ⟨od rfl, trivial⟩ e_17)) ?_
      refine sc (sg (sp_not (od rfl))) ?_
      refine sn fun a w hS => ?_
      refine exit_then ?_
      obtain ⟨y_19, hj_18, h⟩ := bind_some h
      refine wp_mono (Q := fun e a w => e = Exit.normal ∧ ∃ u_20 : Value, St 48 F0 [Item.sl (α := Int) 3 u_20 y_19] [(4, isA (α := S_api_Market) p0), (11, isA (α := S_keeper_want) v_3), (12, Pr.is u_20), (29, isV (α := Int) (p0.2.2.length : Int)), (30, isV (α := Int) i_5)] w0 a w) ?_ ?_
      · refine st_cond hS rfl (fun hb => ?_) (fun hb => ?_)
        · have h := ite_t hb hj_18
          obtain ⟨z_21, e_22, h⟩ := bind_some h
          refine l_start ?_
          refine s_c hS (sg (sp_move (od rfl))) rfl fun a w hS hM => ?_
          refine s_c hS (sg (sp_move (od rfl))) rfl fun a w hS hM => ?_
          refine s_c hS (sg (sp_buildSlice [.tmp 43] ([i_5] : List Int) sl27 ze3 rfl rfl rfl rfl ⟨od rfl, trivial⟩)) rfl fun a w hS hM => ?_
          refine s_append (k := 0) (Δ := [(4, isA (α := S_api_Market) p0), (11, isA (α := S_keeper_want) v_3), (29, isV (α := Int) (p0.2.2.length : Int)), (30, isV (α := Int) i_5), (42, Pr.is u_11), (44, isV (α := List Int) ([i_5] : List Int))]) sl27 ze3 hS rfl ⟨od rfl, od rfl, od rfl, od rfl, od rfl, od rfl, trivial⟩ ⟨fun _ _ _ _ h => h, fun _ _ _ _ h => h, fun _ _ _ _ h => h, fun _ _ _ _ h => h, fun _ _ _ _ h => h, fun _ _ _ _ h => h, trivial⟩ (od rfl) (od rfl) e_22 rfl fun a w u_23 hS hM => ?_
          have hS : St _ F0 [Item.sl (α := Int) 3 u_23 z_21] _ w0 _ _ := hS
          refine s_c hS (sg (sp_assign (od rfl))) rfl fun a w hS hM => ?_
          refine l_end ?_
          cases h
          exact ⟨rfl, u_23, hS.weak ⟨od rfl, od rfl, od rfl, od rfl, od rfl, trivial⟩⟩
        · have h := ite_f hb hj_18
          refine wp_skip ?_
          cases h
          exact ⟨rfl, u_11, hS.weak ⟨od rfl, od rfl, od rfl, od rfl, od rfl, trivial⟩⟩
      rintro e a w ⟨rfl, u_20, hS⟩
      refine exit_block ?_
      refine exit_then ?_
      refine st_reg mixed (by kernel_rfl) hS ?_
      refine sc (sg (sp_add (od rfl) (odi))) ?_
      refine sc (sg (sp_move (od rfl))) ?_
      refine sn fun a w hS => ?_
      cases h
      exact ⟨k_8, _, _, u_20, rfl, hF_8, hS.weak ⟨od rfl, od rfl, od rfl, od rfl, od (congrArg (fun z => some (isV (α := Int) z)) hw_8), trivial⟩⟩
    · refine wp_exit ?_
      obtain rfl := (fors_done hF_8 hb).symm
      have h := hr_10
      refine exit_thenE ?_
      refine exit_thenE ?_
      refine exit_here ?_
      refine exit_then ?_
      refine wp_seq ?_
      refine st_reg mixed (by kernel_rfl) hS ?_
      refine sc (sg (sp_move (od rfl))) ?_
      refine sc (sg (sp_assign (od rfl))) ?_
      refine sc (sg (sp_assign (odi))) ?_
      refine sn fun a w hS => ?_
      refine exit_then ?_
      refine wp_ret ?_
      have hS0 := hS
      have hS := st_freeze 0 8 hS rfl rfl
      have hS := st_also (t := 8) (q := 12) hS0 hS rfl rfl rfl
      have hS := st_also (t := 8) (q := 47) hS0 hS rfl rfl rfl
      cases h
      exact st_ret hS (run_results2 Try.results18 a w) (⟨_, rfl, hS.get rfl, hS.get rfl, trivial⟩)

theorem f22_ok {p0 : S_api_Market} {p1 : Int} {p2 : Int} {p3 : Int} {r : Int × Bool × Int} (h : M.f22 p0 p1 p2 p3 = some r) : CallOK Try.prog 22 [isV p0, isV p1, isV p2, isV p3] (isTup [isV r.1, isV r.2.1, isV r.2.2]) := by
  unfold M.f22 at h
  refine callS_of Try.func22 rfl Try.ntmps22 rfl fun F0 w0 a hS => ?_
  refine wp_seq ?_
  refine st_reg mixed (by kernel_rfl) hS ?_
  refine sc (sg (sp_box (od rfl))) ?_
  refine sc (sg (sp_assign (odi))) ?_
  refine sc (sg (sp_assign (odb))) ?_
  refine sc (sg (sp_assign (odi))) ?_
  refine sn fun a w hS => ?_
  refine exit_then ?_
  refine wp_seq ?_
  refine wp_seq ?_
  obtain ⟨v_1, e_2, h⟩ := bind_some h
  refine st_reg mixed (by kernel_rfl) hS ?_
  refine sc (sg (sp_load ty24 (od rfl))) ?_
  refine sc (sg (sp_move (od rfl))) ?_
  refine sc (sg (sp_move (od rfl))) ?_
  refine sc (sg (sp_buildSlice [.tmp 15, .tmp 16] ([p1, p2] : List Int) sl27 ze3 rfl rfl rfl rfl ⟨od rfl, od rfl, trivial⟩)) ?_
  refine sc (sg (sp_move (od rfl))) ?_
  refine sc (sg (sp_buildSlice [.tmp 18] ([p3] : List Int) sl27 ze3 rfl rfl rfl rfl ⟨od rfl, trivial⟩)) ?_
  refine sc (sg (bd106_01 (od rfl) (od rfl))) ?_
  refine sc (sg (sp_call en76 (f76_ok e_2) ⟨od rfl, odnil (α := Int), od rfl, trivial⟩)) ?_
  refine sc (sg (sp_assign (od rfl))) ?_
  refine sn fun a w hS => ?_
  refine exit_then ?_
  refine wp_seq ?_
  refine st_reg mixed (by kernel_rfl) hS ?_
  refine sc (sg (sp_move (od rfl))) ?_
  refine sc (sg (sp_neq (od rfl) (odi))) ?_
  refine sn fun a w hS => ?_
  refine exit_then ?_
  refine st_cond hS rfl (fun hb => ?_) (fun hb => ?_)
  · have h := ite_t hb h
    refine wp_seq ?_
    refine st_reg mixed (by kernel_rfl) hS ?_
    refine sc (sg (sp_move (od rfl))) ?_
    refine sc (sg (sp_assign (odi))) ?_
    refine sc (sg (sp_assign (odb))) ?_
    refine sc (sg (sp_assign (od rfl))) ?_
    refine sn fun a w hS => ?_
    refine exit_then ?_
    refine wp_ret ?_
    refine exit_thenR ?_
    cases h
    exact st_ret hS (run_results3 Try.results22 a w) (⟨_, rfl, hS.get rfl, hS.get rfl, hS.get rfl, trivial⟩)
  · have h := ite_f hb h
    refine wp_skip ?_
    refine exit_then ?_
    refine wp_seq ?_
    refine st_reg mixed (by kernel_rfl) hS ?_
    refine sc (sg (sp_assign (odi))) ?_
    refine sn fun a w hS => ?_
    refine exit_then ?_
    refine wp_seq ?_
    refine wp_seq ?_
    obtain ⟨v_3, e_4, h⟩ := bind_some h
    refine st_reg mixed (by kernel_rfl) hS ?_
    refine sc (sg (sp_fieldAddr fd24_2 (od rfl))) ?_
    refine sc (sg (sp_load ty22 (od rfl))) ?_
    refine sc (sg (sp_len Try.underlying22 (od rfl))) ?_
    refine sc (sg (sp_shl (odi) (od rfl) e_4)) ?_
    refine sc (sg (sp_move (odi))) ?_
    refine sn fun a w hS => ?_
    refine exit_then ?_
    refine wp_block ?_
    obtain ⟨o_8, e_9, hr_10⟩ := bind_some h
    refine c_loop (fun K a w => ∃ k i_5 s_7, K = k + 1 ∧ ForT _ _ _ o_8 k i_5 s_7 ∧ St 52 F0 [] [(1, isV (α := Int) p1), (2, isV (α := Int) p2), (3, isV (α := Int) p3), (4, isA (α := S_api_Market) p0), (12, isV (α := Int) s_7), (28, isV (α := Int) v_3), (29, isV (α := Int) i_5)] w0 a w) ?_ ?_ ⟨_, _, _, rfl, fors_init e_9, hS.weak ⟨od rfl, od rfl, od rfl, od rfl, od rfl, od rfl, od rfl, trivial⟩⟩
    · rintro a w ⟨_, _, _, hk, _⟩; cases hk
    rintro K a w ⟨k_8, i_5, s_7, hk, hF_8, hS⟩
    obtain rfl := Nat.succ.inj hk
    refine wp_seq ?_
    refine st_reg mixed (by kernel_rfl) hS ?_
    refine sc (sg (sp_lss (od rfl) (od rfl))) ?_
    refine sn fun a w hS => ?_
    refine exit_then ?_
    refine wp_seq ?_
    refine st_cond hS rfl (fun hb => ?_) (fun hb => ?_)
    · refine wp_skip ?_
      refine exit_then ?_
      obtain ⟨k_8, s', rfl, h, hF_8, hw_8⟩ := fors_more hF_8 hb
      refine wp_seq ?_
      refine wp_block ?_
      refine wp_seq ?_
      refine st_reg mixed (by kernel_rfl) hS ?_
      refine sc (sg (sp_move (od rfl))) ?_
      refine sc (sg (sp_assign (od rfl))) ?_
      refine sn fun a w hS => ?_
      refine exit_then ?_
      refine wp_seq ?_
      obtain ⟨v_11, e_12, h⟩ := bind_some h
      refine st_reg mixed (by kernel_rfl) hS ?_
      refine sc (sg (sp_move (od rfl))) ?_
      refine sc (sg (sp_load ty24 (od rfl))) ?_
      refine sc (sg (sp_call en82 (f82_ok e_12) ⟨od rfl, od rfl, trivial⟩)) ?_
      refine sc (sg (sp_move (od rfl))) ?_
      refine sc (sg (sp_leq (od rfl) (od rfl))) ?_
      refine sn fun a w hS => ?_
      refine exit_then ?_
      obtain ⟨y_14, hj_13, h⟩ := bind_some h
      refine wp_mono (Q := fun e a w => e = Exit.normal ∧ St 52 F0 [] [(1, isV (α := Int) p1), (2, isV (α := Int) p2), (3, isV (α := Int) p3), (4, isA (α := S_api_Market) p0), (12, isV (α := Int) y_14), (28, isV (α := Int) v_3), (29, isV (α := Int) i_5)] w0 a w) ?_ ?_
      · refine st_cond hS rfl (fun hb => ?_) (fun hb => ?_)
        · have h := ite_t hb hj_13
          obtain ⟨v_15, e_16, h⟩ := bind_some h
          obtain ⟨v_17, e_18, h⟩ := bind_some h
          obtain ⟨v_19, e_20, h⟩ := bind_some h
          refine st_reg mixed (by kernel_rfl) hS ?_
          refine sc (sg (sp_move (od rfl))) ?_
          refine sc (sg (sp_load ty24 (od rfl))) ?_
          refine sc (sg (sp_move (od rfl))) ?_
          refine sc (sg (sp_call en83 (f83_ok e_16) ⟨od rfl, od rfl, trivial⟩)) ?_
          refine sc (sg (sp_move (od rfl))) ?_
          refine sc (sg (sp_indexAddr sl112 (od rfl) (od rfl) e_18)) ?_
          refine sc (sg (sp_load ty27 (od rfl))) ?_
          refine sc (sg (sp_move (od rfl))) ?_
          refine sc (sg (sp_indexAddr sl27 (od rfl) (od rfl) e_20)) ?_
          refine sc (sg (sp_load ty3 (od rfl))) ?_
          refine sc (sg (sp_min (od rfl) (od rfl))) ?_
          refine sc (sg (sp_assign (od rfl))) ?_
          refine sn fun a w hS => ?_
          cases h
          exact ⟨rfl, hS.weak ⟨od rfl, od rfl, od rfl, od rfl, od rfl, od rfl, od rfl, trivial⟩⟩
        · have h := ite_f hb hj_13
          refine wp_skip ?_
          cases h
          exact ⟨rfl, hS.weak ⟨od rfl, od rfl, od rfl, od rfl, od rfl, od rfl, od rfl, trivial⟩⟩
      rintro e a w ⟨rfl, hS⟩
      refine exit_block ?_
      refine exit_then ?_
      refine st_reg mixed (by kernel_rfl) hS ?_
      refine sc (sg (sp_add (od rfl) (odi))) ?_
      refine sc (sg (sp_move (od rfl))) ?_
      refine sn fun a w hS => ?_
      cases h
      exact ⟨k_8, _, _, rfl, hF_8, hS.weak ⟨od rfl, od rfl, od rfl, od rfl, od rfl, od rfl, od (congrArg (fun z => some (isV (α := Int) z)) hw_8), trivial⟩⟩
    · refine wp_exit ?_
      obtain rfl := (fors_done hF_8 hb).symm
      have h := hr_10
      refine exit_thenE ?_
      refine exit_thenE ?_
      refine exit_here ?_
      refine exit_then ?_
      refine wp_seq ?_
      refine wp_seq ?_
      refine st_reg mixed (by kernel_rfl) hS ?_
      refine sc (sg (sp_move (od rfl))) ?_
      refine sc (sg (sp_geq (od rfl) (odi))) ?_
      refine sn fun a w hS => ?_
      refine exit_then ?_
      refine st_cond hS rfl (fun hb => ?_) (fun hb => ?_)
      · have h := ite_t hb h
        refine wp_seq ?_
        refine st_reg mixed (by kernel_rfl) hS ?_
        refine sc (sg (sp_assign (odi))) ?_
        refine sc (sg (sp_assign (odb))) ?_
        refine sc (sg (sp_assign (odi))) ?_
        refine sn fun a w hS => ?_
        refine exit_then ?_
        refine wp_ret ?_
        refine exit_thenR ?_
        cases h
        exact st_ret hS (run_results3 Try.results22 a w) (⟨_, rfl, hS.get rfl, hS.get rfl, hS.get rfl, trivial⟩)
      · have h := ite_f hb h
        refine wp_skip ?_
        refine exit_then ?_
        refine wp_seq ?_
        refine st_reg mixed (by kernel_rfl) hS ?_
        refine sc (sg (sp_move (od rfl))) ?_
        refine sc (sg (sp_assign (od rfl))) ?_
        refine sc (sg (sp_assign (odb))) ?_
        refine sc (sg (sp_assign (odi))) ?_
        refine sn fun a w hS => ?_
        refine exit_then ?_
        refine wp_ret ?_
        cases h
        exact st_ret hS (run_results3 Try.results22 a w) (⟨_, rfl, hS.get rfl, hS.get rfl, hS.get rfl, trivial⟩)

theorem f64_ok {p0 : S_api_Market} {p1 : List Int} {p2 : Int} {p3 : Int} {p4 : Int} {p5 : List Int} {r : Int} (h : M.f64 p0 p1 p2 p3 p4 p5 = some r) : CallOK Try.prog 64 [isV p0, isV p1, isV p2, isV p3, isV p4, isV p5] (isV r) := by
  unfold M.f64 at h
  refine callS_of Try.func64 rfl Try.ntmps64 rfl fun F0 w0 a hS => ?_
  refine wp_seq ?_
  refine st_reg mixed (by kernel_rfl) hS ?_
  refine sc (sg (sp_box (od rfl))) ?_
  refine sc (sg (sp_assign (odi))) ?_
  refine sn fun a w hS => ?_
  refine exit_then ?_
  refine wp_seq ?_
  refine wp_seq ?_
  obtain ⟨v_1, e_2, h⟩ := bind_some h
  refine st_reg mixed (by kernel_rfl) hS ?_
  refine sc (sg (sp_load ty24 (od rfl))) ?_
  refine sc (sg (sp_move (od rfl))) ?_
  refine sc (sg (sp_move (od rfl))) ?_
  refine sc (sg (sp_move (od rfl))) ?_
  refine sc (sg (sp_buildSlice [.tmp 20, .tmp 21] ([p2, p3] : List Int) sl27 ze3 rfl rfl rfl rfl ⟨od rfl, od rfl, trivial⟩)) ?_
  refine sc (sg (sp_move (od rfl))) ?_
  refine sc (sg (sp_buildSlice [.tmp 23] ([p4] : List Int) sl27 ze3 rfl rfl rfl rfl ⟨od rfl, trivial⟩)) ?_
  refine sc (sg (bd106_01 (od rfl) (od rfl))) ?_
  refine sc (sg (sp_call en76 (f76_ok e_2) ⟨od rfl, od rfl, od rfl, trivial⟩)) ?_
  refine sc (sg (sp_assign (od rfl))) ?_
  refine sn fun a w hS => ?_
  refine exit_then ?_
  refine wp_seq ?_
  refine st_reg mixed (by kernel_rfl) hS ?_
  refine sc (sg (sp_move (od rfl))) ?_
  refine sc (sg (sp_neq (od rfl) (odi))) ?_
  refine sn fun a w hS => ?_
  refine exit_then ?_
  refine st_cond hS rfl (fun hb => ?_) (fun hb => ?_)
  · have h := ite_t hb h
    refine wp_seq ?_
    refine st_reg mixed (by kernel_rfl) hS ?_
    refine sc (sg (sp_move (od rfl))) ?_
    refine sc (sg (sp_assign (od rfl))) ?_
    refine sn fun a w hS => ?_
    refine exit_then ?_
    refine wp_ret ?_
    refine exit_thenR ?_
    cases h
    exact st_ret hS (run_results1 Try.results64 a w) (hS.get rfl)
  · have h := ite_f hb h
    refine wp_skip ?_
    refine exit_then ?_
    refine wp_seq ?_
    refine wp_seq ?_
    obtain ⟨v_3, e_4, h⟩ := bind_some h
    obtain ⟨v_5, e_6, h⟩ := bind_some h
    refine st_reg mixed (by kernel_rfl) hS ?_
    refine sc (sg (sp_move (od rfl))) ?_
    refine sc (sg (sp_len Try.underlying27 (od rfl))) ?_
    refine sc (sg (sp_lss (od rfl) (odi))) ?_
    refine sc (sg (sp_move (od rfl))) ?_
    refine sc (sgF rfl fun hG => sp_move (od rfl)) ?_
    refine sc (sgF rfl fun hG => sp_len Try.underlying27 (odw rfl hG)) ?_
    refine sc (sgF rfl fun hG => sp_gtr (odw rfl hG) (odi)) ?_
    refine sc (sg (sp_pickOr (od rfl) fun hg => odw rfl (not_t hg))) ?_
    refine sc (sg (sp_move (od rfl))) ?_
    refine sc (sgF rfl fun hG => sp_move (od rfl)) ?_
    refine sc (sgF rfl fun hG => sp_indexAddr sl27 (odw rfl hG) (odi) (guard_some e_4 hG)) ?_
    refine sc (sgF rfl fun hG => sp_load ty3 (odw rfl hG)) ?_
    refine sc (sgF rfl fun hG => sp_move (od rfl)) ?_
    refine sc (sgF rfl fun hG => sp_neq (odw rfl hG) (odw rfl hG)) ?_
    refine sc (sg (sp_pickOr (od rfl) fun hg => odw rfl (not_t hg))) ?_
    refine sc (sg (sp_move (od rfl))) ?_
    refine sc (sgF rfl fun hG => sp_move (od rfl)) ?_
    refine sc (sgF rfl fun hG => sp_move (od rfl)) ?_
    refine sc (sgF rfl fun hG => sp_len Try.underlying27 (odw rfl hG)) ?_
    refine sc (sgF rfl fun hG => sp_sub (odw rfl hG) (odi)) ?_
    refine sc (sgF rfl fun hG => sp_indexAddr sl27 (odw rfl hG) (odw rfl hG) (guard_some e_6 hG)) ?_
    refine sc (sgF rfl fun hG => sp_load ty3 (odw rfl hG)) ?_
    refine sc (sgF rfl fun hG => sp_move (od rfl)) ?_
    refine sc (sgF rfl fun hG => sp_neq (odw rfl hG) (odw rfl hG)) ?_
    refine sc (sg (sp_pickOr (od rfl) fun hg => odw rfl (not_t hg))) ?_
    refine sn fun a w hS => ?_
    refine exit_then ?_
    refine st_cond hS rfl (fun hb => ?_) (fun hb => ?_)
    · have h := ite_t hb h
      refine wp_seq ?_
      refine st_reg mixed (by kernel_rfl) hS ?_
      refine sc (sg (sp_assign (odi))) ?_
      refine sn fun a w hS => ?_
      refine exit_then ?_
      refine wp_ret ?_
      refine exit_thenR ?_
      cases h
      exact st_ret hS (run_results1 Try.results64 a w) (hS.get rfl)
    · have h := ite_f hb h
      refine wp_skip ?_
      refine exit_then ?_
      refine wp_seq ?_
      obtain ⟨v_7, e_8, h⟩ := bind_some h
      obtain ⟨v_9, e_10, h⟩ := bind_some h
      refine st_reg mixed (by kernel_rfl) hS ?_
      refine sc (sg (sp_load ty24 (od rfl))) ?_
      refine sc (sg (sp_move (od rfl))) ?_
      refine sc (sg (sp_call en92 (f92_ok e_8) ⟨od rfl, trivial⟩)) ?_
      refine sc (sg (sp_call en113 (callOK_tab (f113_ok e_10)) ⟨od rfl, od rfl, trivial⟩)) ?_
      refine sc (sg (sp_assign (od rfl))) ?_
      refine sc (sg (sp_assign (odi))) ?_
      refine sn fun a w hS => ?_
      refine exit_then ?_
      refine wp_seq ?_
      refine wp_seq ?_
      refine st_reg mixed (by kernel_rfl) hS ?_
      refine sc (sg (sp_move (od rfl))) ?_
      refine sc (sg (sp_len Try.underlying27 (od rfl))) ?_
      refine sc (sg (sp_move (odi))) ?_
      refine sn fun a w hS => ?_
      refine exit_then ?_
      refine wp_block ?_
      obtain ⟨o_14, e_15, hr_16⟩ := bind_some h
      refine c_loop (fun K a w => ∃ k i_11 s_13, K = k + 1 ∧ ForI _ _ _ o_14 k i_11 s_13 ∧ St 93 F0 [] [(4, isV (α := Int) p4), (5, isV (α := List Int) p5), (6, isA (α := S_api_Market) p0), (14, isV (α := List (List Int)) v_9), (15, isV (α := Int) s_13), (59, isV (α := List Int) p5), (60, isV (α := Int) (p5.length : Int)), (61, isV (α := Int) i_11)] w0 a w) ?_ ?_ ⟨_, _, _, rfl, for_init e_15, hS.weak ⟨od rfl, od rfl, od rfl, od rfl, od rfl, od rfl, od rfl, od rfl, trivial⟩⟩
      · rintro a w ⟨_, _, _, hk, _⟩; cases hk
      rintro K a w ⟨k_14, i_11, s_13, hk, hF_14, hS⟩
      obtain rfl := Nat.succ.inj hk
      refine wp_seq ?_
      refine st_reg mixed (by kernel_rfl) hS ?_
      refine sc (sg (sp_lss (od rfl) (od rfl))) ?_
      refine sn fun a w hS => ?_
      refine exit_then ?_
      refine wp_seq ?_
      refine st_cond hS rfl (fun hb => ?_) (fun hb => ?_)
      · refine wp_skip ?_
        refine exit_then ?_
        obtain ⟨k_14, o, rfl, h, hN_14, hL_14, hw_14⟩ := for_more hF_14 hb
        refine wp_seq ?_
        refine wp_block ?_
        refine wp_seq ?_
        obtain ⟨v_17, e_18, h⟩ := bind_some h
        refine st_reg mixed (by kernel_rfl) hS ?_
        refine sc (sg (sp_move (od rfl))) ?_
        refine sc (sg (sp_indexAddr sl27 (od rfl) (od rfl) e_18)) ?_
        refine sc (sg (sp_load ty3 (od rfl))) ?_
        refine sc (sg (sp_assign (od rfl))) ?_
        refine sc (sg (sp_assign (od rfl))) ?_
        refine sn fun a w hS => ?_
        refine exit_then ?_
        refine wp_seq ?_
        refine wp_seq ?_
        refine st_reg mixed (by kernel_rfl) hS ?_
        refine sc (sg (sp_move (od rfl))) ?_
        refine sc (sg (sp_lss (od rfl) (odi))) ?_
        refine sc (sg (sp_move (od rfl))) ?_
        refine sc (sgF rfl fun hG => sp_move (od rfl)) ?_
        refine sc (sgF rfl fun hG => sp_fieldAddr fd24_0 (od rfl)) ?_
        refine sc (sgF rfl fun hG => sp_load ty3 (odw rfl hG)) ?_
        refine sc (sgF rfl fun hG => sp_geq (odw rfl hG) (odw rfl hG)) ?_
        refine sc (sg (sp_pickOr (od rfl) fun hg => odw rfl (not_t hg))) ?_
        refine sn fun a w hS => ?_
        refine exit_then ?_
        refine st_cond hS rfl (fun hb => ?_) (fun hb => ?_)
        · have h := ite_t hb h
          refine wp_seq ?_
          refine st_reg mixed (by kernel_rfl) hS ?_
          refine sc (sg (sp_assign (odi))) ?_
          refine sn fun a w hS => ?_
          refine exit_then ?_
          refine wp_ret ?_
          refine exit_thenR ?_
          refine exit_blockR ?_
          refine exit_thenR ?_
          cases h
          obtain rfl := hL_14 _ rfl
          have h := (elim_leave hr_16)
          refine exit_thenR ?_
          refine exit_blockR ?_
          refine exit_thenR ?_
          cases h
          exact st_ret hS (run_results1 Try.results64 a w) (hS.get rfl)
        · have h := ite_f hb h
          refine wp_skip ?_
          refine exit_then ?_
          refine wp_seq ?_
          refine st_reg mixed (by kernel_rfl) hS ?_
          refine sc (sg (sp_move (od rfl))) ?_
          refine sc (sg (sp_gtr (od rfl) (odi))) ?_
          refine sn fun a w hS => ?_
          refine exit_then ?_
          obtain ⟨y_20, hj_19, h⟩ := bind_some h
          refine wp_mono (Q := fun e a w => e = Exit.normal ∧ St 93 F0 [] [(4, isV (α := Int) p4), (5, isV (α := List Int) p5), (6, isA (α := S_api_Market) p0), (14, isV (α := List (List Int)) v_9), (15, isV (α := Int) y_20), (59, isV (α := List Int) p5), (60, isV (α := Int) (p5.length : Int)), (61, isV (α := Int) i_11)] w0 a w) ?_ ?_
          · refine st_cond hS rfl (fun hb => ?_) (fun hb => ?_)
            · have h := ite_t hb hj_19
              obtain ⟨v_21, e_22, h⟩ := bind_some h
              obtain ⟨v_23, e_24, h⟩ := bind_some h
              obtain ⟨v_25, e_26, h⟩ := bind_some h
              refine st_reg mixed (by kernel_rfl) hS ?_
              refine sc (sg (sp_move (od rfl))) ?_
              refine sc (sg (sp_move (od rfl))) ?_
              refine sc (sg (sp_move (od rfl))) ?_
              refine sc (sg (sp_move (od rfl))) ?_
              refine sc (sg (sp_sub (od rfl) (odi))) ?_
              refine sc (sg (sp_indexAddr sl27 (od rfl) (od rfl) e_22)) ?_
              refine sc (sg (sp_load ty3 (od rfl))) ?_
              refine sc (sg (sp_indexAddr sl112 (od rfl) (od rfl) e_24)) ?_
              refine sc (sg (sp_load ty27 (od rfl))) ?_
              refine sc (sg (sp_move (od rfl))) ?_
              refine sc (sg (sp_indexAddr sl27 (od rfl) (od rfl) e_26)) ?_
              refine sc (sg (sp_load ty3 (od rfl))) ?_
              refine sc (sg (sp_add (od rfl) (od rfl))) ?_
              refine sc (sg (sp_assign (od rfl))) ?_
              refine sn fun a w hS => ?_
              cases h
              exact ⟨rfl, hS.weak ⟨od rfl, od rfl, od rfl, od rfl, od rfl, od rfl, od rfl, od rfl, trivial⟩⟩
            · have h := ite_f hb hj_19
              refine wp_skip ?_
              cases h
              exact ⟨rfl, hS.weak ⟨od rfl, od rfl, od rfl, od rfl, od rfl, od rfl, od rfl, od rfl, trivial⟩⟩
          rintro e a w ⟨rfl, hS⟩
          refine exit_block ?_
          refine exit_then ?_
          refine st_reg mixed (by kernel_rfl) hS ?_
          refine sc (sg (sp_add (od rfl) (odi))) ?_
          refine sc (sg (sp_move (od rfl))) ?_
          refine sn fun a w hS => ?_
          cases h
          exact ⟨k_14, _, _, rfl, hN_14 _ rfl, hS.weak ⟨od rfl, od rfl, od rfl, od rfl, od rfl, od rfl, od rfl, od (congrArg (fun z => some (isV (α := Int) z)) hw_14), trivial⟩⟩
      · refine wp_exit ?_
        obtain rfl := for_done hF_14 hb
        have h := elim_again hr_16
        refine exit_thenE ?_
        refine exit_thenE ?_
        refine exit_here ?_
        refine exit_then ?_
        refine wp_seq ?_
        refine wp_seq ?_
        refine st_reg mixed (by kernel_rfl) hS ?_
        refine sc (sg (sp_move (od rfl))) ?_
        refine sc (sg (sp_move (od rfl))) ?_
        refine sc (sg (sp_gtr (od rfl) (od rfl))) ?_
        refine sn fun a w hS => ?_
        refine exit_then ?_
        refine st_cond hS rfl (fun hb => ?_) (fun hb => ?_)
        · have h := ite_t hb h
          refine wp_seq ?_
          refine st_reg mixed (by kernel_rfl) hS ?_
          refine sc (sg (sp_assign (odi))) ?_
          refine sn fun a w hS => ?_
          refine exit_then ?_
          refine wp_ret ?_
          refine exit_thenR ?_
          cases h
          exact st_ret hS (run_results1 Try.results64 a w) (hS.get rfl)
        · have h := ite_f hb h
          refine wp_skip ?_
          refine exit_then ?_
          refine wp_seq ?_
          refine st_reg mixed (by kernel_rfl) hS ?_
          refine sc (sg (sp_assign (odi))) ?_
          refine sn fun a w hS => ?_
          refine exit_then ?_
          refine wp_ret ?_
          cases h
          exact st_ret hS (run_results1 Try.results64 a w) (hS.get rfl)

theorem f16_ok {fuel : Nat}  {r : Bool} (h : M.f16 fuel  = some r) : CallOK Try.prog 16 [] (isV r) := by
  unfold M.f16 at h
  refine callS_of Try.func16 rfl Try.ntmps16 rfl fun F0 w0 a hS => ?_
  refine wp_seq ?_
  refine st_reg mixed (by kernel_rfl) hS ?_
  refine sc (sg (sp_assign (odb))) ?_
  refine sn fun a w hS => ?_
  refine exit_then ?_
  refine wp_seq ?_
  obtain ⟨v_1, e_2, h⟩ := bind_some h
  refine l_start ?_
  refine s_c hS (sg (sp_call en68 (f68_ok e_2) trivial)) rfl fun a w hS hM => ?_
  refine s_allocStore ze24 hS (od rfl) (fun k hk => by cases hk; rfl) rfl fun a w hS hM => ?_
  refine l_end ?_
  refine exit_then ?_
  refine wp_seq ?_
  obtain ⟨v_3, e_4, h⟩ := bind_some h
  refine st_reg mixed (by kernel_rfl) hS ?_
  refine sc (sg (sp_load ty24 (od rfl))) ?_
  refine sc (sg (sp_buildSlice [.const (.int .i64 (0)), .const (.int .i64 (1))] ([0, 1] : List Int) sl27 ze3 rfl rfl rfl rfl ⟨odi, odi, trivial⟩)) ?_
  refine sc (sg (sp_call en33 (f33_ok e_4) ⟨od rfl, od rfl, odi, odi, trivial⟩)) ?_
  refine sc (sg (sp_move (od rfl))) ?_
  refine sc (sg (sp_extract (od rfl) rfl)) ?_
  refine sc (sg (sp_extract (od rfl) rfl)) ?_
  refine sc (sg (sp_extract (od rfl) rfl)) ?_
  refine sc (sg (sp_assign (od rfl))) ?_
  refine sc (sg (sp_assign (od rfl))) ?_
  refine sc (sg (sp_assign (od rfl))) ?_
  refine sn fun a w hS => ?_
  refine exit_then ?_
  refine wp_seq ?_
  obtain ⟨v_5, e_6, h⟩ := bind_some h
  refine st_reg mixed (by kernel_rfl) hS ?_
  refine sc (sg (sp_load ty24 (od rfl))) ?_
  refine sc (sg (sp_call en25 (f25_ok e_6) ⟨od rfl, odi, odi, odi, trivial⟩)) ?_
  refine sc (sg (sp_move (od rfl))) ?_
  refine sc (sg (sp_extract (od rfl) rfl)) ?_
  refine sc (sg (sp_extract (od rfl) rfl)) ?_
  refine sc (sg (sp_extract (od rfl) rfl)) ?_
  refine sc (sg (sp_assign (od rfl))) ?_
  refine sc (sg (sp_assign (od rfl))) ?_
  refine sc (sg (sp_assign (od rfl))) ?_
  refine sn fun a w hS => ?_
  refine exit_then ?_
  refine wp_seq ?_
  obtain ⟨v_7, e_8, h⟩ := bind_some h
  refine st_reg mixed (by kernel_rfl) hS ?_
  refine sc (sg (sp_load ty24 (od rfl))) ?_
  refine sc (sg (sp_call en25 (f25_ok e_8) ⟨od rfl, odi, odi, odi, trivial⟩)) ?_
  refine sc (sg (sp_move (od rfl))) ?_
  refine sc (sg (sp_extract (od rfl) rfl)) ?_
  refine sc (sg (sp_extract (od rfl) rfl)) ?_
  refine sc (sg (sp_extract (od rfl) rfl)) ?_
  refine sc (sg (sp_assign (od rfl))) ?_
  refine sc (sg (sp_assign (od rfl))) ?_
  refine sc (sg (sp_assign (od rfl))) ?_
  refine sn fun a w hS => ?_
  refine exit_then ?_
  refine wp_seq ?_
  obtain ⟨v_9, e_10, h⟩ := bind_some h
  refine st_reg mixed (by kernel_rfl) hS ?_
  refine sc (sg (sp_load ty24 (od rfl))) ?_
  refine sc (sg (sp_call en25 (f25_ok e_10) ⟨od rfl, odi, odi, odi, trivial⟩)) ?_
  refine sc (sg (sp_move (od rfl))) ?_
  refine sc (sg (sp_extract (od rfl) rfl)) ?_
  refine sc (sg (sp_extract (od rfl) rfl)) ?_
  refine sc (sg (sp_extract (od rfl) rfl)) ?_
  refine sc (sg (sp_assign (od rfl))) ?_
  refine sc (sg (sp_assign (od rfl))) ?_
  refine sc (sg (sp_assign (od rfl))) ?_
  refine sn fun a w hS => ?_
  refine exit_then ?_
  refine wp_seq ?_
  refine wp_seq ?_
  obtain ⟨v_11, e_12, h⟩ := bind_some h
  obtain ⟨v_13, e_14, h⟩ := bind_some h
  refine st_reg mixed (by kernel_rfl) hS ?_
  refine sc (sg (sp_move (od rfl))) ?_
  refine sc (sg (sp_neq (od rfl) (odi))) ?_
  refine sc (sg (sp_move (od rfl))) ?_
  refine sc (sgF rfl fun hG => sp_move (od rfl)) ?_
  refine sc (sgF rfl fun hG => sp_not (odw rfl hG)) ?_
  refine sc (sg (sp_pickOr (od rfl) fun hg => odw rfl (not_t hg))) ?_
  refine sc (sg (sp_move (od rfl))) ?_
  refine sc (sgF rfl fun hG => sp_move (od rfl)) ?_
  refine sc (sgF rfl fun hG => sp_neq (odw rfl hG) (odi)) ?_
  refine sc (sg (sp_pickOr (od rfl) fun hg => odw rfl (not_t hg))) ?_
  refine sc (sg (sp_move (od rfl))) ?_
  refine sc (sgF rfl fun hG => sp_move (od rfl)) ?_
  refine sc (sgF rfl fun hG => sp_buildSlice [.const (.int .i64 (0)), .const (.int .i64 (1))] ([0, 1] : List Int) sl27 ze3 rfl rfl rfl rfl ⟨odi, odi, trivial⟩) ?_
  refine sc (sgF rfl fun hG => sp_call en24 (f24_ok (guard_some e_12 hG)) ⟨odw rfl hG, odw rfl hG, trivial⟩) ?_
  refine sc (sgF rfl fun hG => sp_not (odw rfl hG)) ?_
  refine sc (sg (sp_pickOr (od rfl) fun hg => odw rfl (not_t hg))) ?_
  refine sc (sg (sp_move (od rfl))) ?_
  refine sc (sgF rfl fun hG => sp_move (od rfl)) ?_
  refine sc (sgF rfl fun hG => sp_not (odw rfl hG)) ?_
  refine sc (sg (sp_pickOr (od rfl) fun hg => odw rfl (not_t hg))) ?_
  refine sc (sg (sp_move (od rfl))) ?_
  refine sc (sgF rfl fun hG => sp_move (od rfl)) ?_
  refine sc (sgF rfl fun hG => sp_neq (odw rfl hG) (odi)) ?_
  refine sc (sg (sp_pickOr (od rfl) fun hg => odw rfl (not_t hg))) ?_
  refine sc (sg (sp_move (od rfl))) ?_
  refine sc (sgF rfl fun hG => sp_move (od rfl)) ?_
  refine sc (sgF rfl fun hG => sp_buildSlice [.const (.int .i64 (2))] ([2] : List Int) sl27 ze3 rfl rfl rfl rfl ⟨odi, trivial⟩) ?_
  refine sc (sgF rfl fun hG => sp_call en24 (f24_ok (guard_some e_14 hG)) ⟨odw rfl hG, odw rfl hG, trivial⟩) ?_
  refine sc (sgF rfl fun hG => sp_not (odw rfl hG)) ?_
  refine sc (sg (sp_pickOr (od rfl) fun hg => odw rfl (not_t hg))) ?_
  refine sc (sg (sp_move (od rfl))) ?_
  refine sc (sgF rfl fun hG => sp_move (od rfl)) ?_
  refine sc (sgF rfl fun hG => sp_not (odw rfl hG)) ?_
  refine sc (sg (sp_pickOr (od rfl) fun hg => odw rfl (not_t hg))) ?_
  refine sc (sg (sp_move (od rfl))) ?_
  refine sc (sgF rfl fun hG => sp_move (od rfl)) ?_
  refine sc (sgF rfl fun hG => sp_neq (odw rfl hG) (odi)) ?_
  refine sc (sg (sp_pickOr (od rfl) fun hg => odw rfl (not_t hg))) ?_
  refine sc (sg (sp_move (od rfl))) ?_
  refine sc (sgF rfl fun hG => sp_move (od rfl)) ?_
  refine sc (sg (sp_pickOr (od rfl) fun hg => odw rfl (not_t hg))) ?_
  refine sc (sg (sp_move (od rfl))) ?_
  refine sc (sgF rfl fun hG => sp_move (od rfl)) ?_
  refine sc (sgF rfl fun hG => sp_neq (odw rfl hG) (odi)) ?_
  refine sc (sg (sp_pickOr (od rfl) fun hg => odw rfl (not_t hg))) ?_
  refine sn fun a w hS => ?_
  refine exit_then ?_
  refine st_cond hS rfl (fun hb => ?_) (fun hb => ?_)
  · have h := ite_t hb h
    refine wp_seq ?_
    refine st_reg mixed (by kernel_rfl) hS ?_
    refine sc (sg (sp_assign (odb))) ?_
    refine sn fun a w hS => ?_
    refine exit_then ?_
    refine wp_ret ?_
    refine exit_thenR ?_
    cases h
    exact st_ret hS (run_results1 Try.results16 a w) (hS.get rfl)
  · have h := ite_f hb h
    refine wp_skip ?_
    refine exit_then ?_
    refine wp_seq ?_
    obtain ⟨v_15, e_16, h⟩ := bind_some h
    refine st_reg mixed (by kernel_rfl) hS ?_
    refine sc (sg (sp_load ty24 (od rfl))) ?_
    refine sc (sg (sp_call en34 (f34_ok e_16) ⟨od rfl, odi, trivial⟩)) ?_
    refine sc (sg (sp_move (od rfl))) ?_
    refine sc (sg (sp_extract (od rfl) rfl)) ?_
    refine sc (sg (sp_extract (od rfl) rfl)) ?_
    refine sc (sg (sp_assign (od rfl))) ?_
    refine sc (sg (sp_assign (od rfl))) ?_
    refine sn fun a w hS => ?_
    refine exit_then ?_
    refine wp_seq ?_
    obtain ⟨v_17, e_18, h⟩ := bind_some h
    refine st_reg mixed (by kernel_rfl) hS ?_
    refine sc (sg (sp_load ty24 (od rfl))) ?_
    refine sc (sg (sp_call en27 (f27_ok e_18) ⟨od rfl, odi, trivial⟩)) ?_
    refine sc (sg (sp_move (od rfl))) ?_
    refine sc (sg (sp_extract (od rfl) rfl)) ?_
    refine sc (sg (sp_extract (od rfl) rfl)) ?_
    refine sc (sg (sp_extract (od rfl) rfl)) ?_
    refine sc (sg (sp_assign (od rfl))) ?_
    refine sc (sg (sp_assign (od rfl))) ?_
    refine sc (sg (sp_assign (od rfl))) ?_
    refine sn fun a w hS => ?_
    refine exit_then ?_
    refine wp_seq ?_
    obtain ⟨v_19, e_20, h⟩ := bind_some h
    refine l_start ?_
    refine s_c hS (sg (sp_load ty24 (od rfl))) rfl fun a w hS hM => ?_
    refine s_c hS (sg (sp_buildSlice [.const (.int .i64 (0)), .const (.int .i64 (1))] ([0, 1] : List Int) sl27 ze3 rfl rfl rfl rfl ⟨odi, odi, trivial⟩)) rfl fun a w hS hM => ?_
    refine s_c hS (sg (bd82_01 (odi) (odi))) rfl fun a w hS hM => ?_
    refine s_c hS (sg (bd82_01 (odi) (odi))) rfl fun a w hS hM => ?_
    refine s_c hS (sg (sp_buildSlice [.tmp 106, .tmp 107] ([((0, 10) : S_api_Span), (((-3), 7) : S_api_Span)] : List S_api_Span) sl80 ze82 rfl rfl rfl rfl ⟨od rfl, od rfl, trivial⟩)) rfl fun a w hS hM => ?_
    refine s_c hS (sg (sp_call en61 (f61_ok e_20) ⟨od rfl, od rfl, odi, odi, odnil (α := S_api_Span), od rfl, trivial⟩)) rfl fun a w hS hM => ?_
    refine s_c hS (sg (sp_move (od rfl))) rfl fun a w hS hM => ?_
    refine s_c hS (sg (sp_extract (od rfl) rfl)) rfl fun a w hS hM => ?_
    refine s_c hS (sg (sp_extract (od rfl) rfl)) rfl fun a w hS hM => ?_
    refine s_c hS (sg (sp_extract (od rfl) rfl)) rfl fun a w hS hM => ?_
    refine s_allocStore ze82 hS (od rfl) (fun k hk => by cases hk; rfl) rfl fun a w hS hM => ?_
    refine s_c hS (sg (sp_assign (od rfl))) rfl fun a w hS hM => ?_
    refine s_c hS (sg (sp_assign (od rfl))) rfl fun a w hS hM => ?_
    refine l_end ?_
    refine exit_then ?_
    refine wp_seq ?_
    obtain ⟨v_21, e_22, h⟩ := bind_some h
    refine st_reg mixed (by kernel_rfl) hS ?_
    refine sc (sg (sp_load ty24 (od rfl))) ?_
    refine sc (sg (sp_call en20 (f20_ok e_22) ⟨od rfl, odi, odi, odi, odi, trivial⟩)) ?_
    refine sc (sg (sp_move (od rfl))) ?_
    refine sc (sg (sp_extract (od rfl) rfl)) ?_
    refine sc (sg (sp_extract (od rfl) rfl)) ?_
    refine sc (sg (sp_extract (od rfl) rfl)) ?_
    refine sc (sg (sp_assign (od rfl))) ?_
    refine sc (sg (sp_assign (od rfl))) ?_
    refine sc (sg (sp_assign (od rfl))) ?_
    refine sn fun a w hS => ?_
    refine exit_then ?_
    refine wp_seq ?_
    refine wp_seq ?_
    obtain ⟨v_23, e_24, h⟩ := bind_some h
    obtain ⟨v_25, e_26, h⟩ := bind_some h
    refine st_reg mixed (by kernel_rfl) hS ?_
    refine sc (sg (sp_move (od rfl))) ?_
    refine sc (sg (sp_neq (od rfl) (odi))) ?_
    refine sc (sg (sp_move (od rfl))) ?_
    refine sc (sgF rfl fun hG => sp_move (od rfl)) ?_
    refine sc (sgF rfl fun hG => bd54 (odi) (odi)) ?_
    refine sc (sgF rfl fun hG => sp_buildSlice [.tmp 123] ([(#v[0, 0] : Vector Int 2)] : List (Vector Int 2)) sl48 ze54 rfl rfl rfl rfl ⟨odw rfl hG, trivial⟩) ?_
    refine sc (sgF rfl fun hG => bd54 (odi) (odi)) ?_
    refine sc (sgF rfl fun hG => sp_buildSlice [.tmp 125] ([(#v[5, 10] : Vector Int 2)] : List (Vector Int 2)) sl48 ze54 rfl rfl rfl rfl ⟨odw rfl hG, trivial⟩) ?_
    refine sc (sgF rfl fun hG => bd54 (odi) (odi)) ?_
    refine sc (sgF rfl fun hG => bd54 (odi) (odi)) ?_
    refine sc (sgF rfl fun hG => sp_buildSlice [.tmp 127, .tmp 128] ([(#v[9, 20] : Vector Int 2), (#v[12, 5] : Vector Int 2)] : List (Vector Int 2)) sl48 ze54 rfl rfl rfl rfl ⟨odw rfl hG, odw rfl hG, trivial⟩) ?_
    refine sc (sgF rfl fun hG => sp_buildSlice [.tmp 124, .tmp 126, .tmp 129] ([([(#v[0, 0] : Vector Int 2)] : List (Vector Int 2)), ([(#v[5, 10] : Vector Int 2)] : List (Vector Int 2)), ([(#v[9, 20] : Vector Int 2), (#v[12, 5] : Vector Int 2)] : List (Vector Int 2))] : List (List (Vector Int 2))) sl44 ze48 rfl rfl rfl rfl ⟨odw rfl hG, odw rfl hG, odw rfl hG, trivial⟩) ?_
    refine sc (sgF rfl fun hG => sp_call en36 (f36_ok (guard_some e_24 hG)) ⟨odw rfl hG, odw rfl hG, trivial⟩) ?_
    refine sc (sgF rfl fun hG => sp_not (odw rfl hG)) ?_
    refine sc (sg (sp_pickOr (od rfl) fun hg => odw rfl (not_t hg))) ?_
    refine sc (sg (sp_move (od rfl))) ?_
    refine sc (sgF rfl fun hG => sp_move (od rfl)) ?_
    refine sc (sgF rfl fun hG => sp_buildSlice [.const (.int .i64 (1)), .const (.int .i64 (2))] ([1, 2] : List Int) sl27 ze3 rfl rfl rfl rfl ⟨odi, odi, trivial⟩) ?_
    refine sc (sgF rfl fun hG => sp_call en24 (f24_ok (guard_some e_26 hG)) ⟨odw rfl hG, odw rfl hG, trivial⟩) ?_
    refine sc (sgF rfl fun hG => sp_not (odw rfl hG)) ?_
    refine sc (sg (sp_pickOr (od rfl) fun hg => odw rfl (not_t hg))) ?_
    refine sc (sg (sp_move (od rfl))) ?_
    refine sc (sgF rfl fun hG => sp_move (od rfl)) ?_
    refine sc (sgF rfl fun hG => sp_not (odw rfl hG)) ?_
    refine sc (sg (sp_pickOr (od rfl) fun hg => odw rfl (not_t hg))) ?_
    refine sc (sg (sp_move (od rfl))) ?_
    refine sc (sgF rfl fun hG => sp_move (od rfl)) ?_
    refine sc (sgF rfl fun hG => sp_neq (odw rfl hG) (odi)) ?_
    refine sc (sg (sp_pickOr (od rfl) fun hg => odw rfl (not_t hg))) ?_
    refine sc (sg (sp_move (od rfl))) ?_
    refine sc (sgF rfl fun hG => sp_load ty82 (od rfl)) ?_
    refine sc (sgF rfl fun hG => bd82_01 (odi) (odi)) ?_
    refine sc (sgF rfl fun hG => sp_neqS eq82 rfl eg82 rfl (odw rfl hG) (odw rfl hG)) ?_
    refine sc (sg (sp_pickOr (od rfl) fun hg => odw rfl (not_t hg))) ?_
    refine sc (sg (sp_move (od rfl))) ?_
    refine sc (sgF rfl fun hG => sp_move (od rfl)) ?_
    refine sc (sgF rfl fun hG => sp_not (odw rfl hG)) ?_
    refine sc (sg (sp_pickOr (od rfl) fun hg => odw rfl (not_t hg))) ?_
    refine sc (sg (sp_move (od rfl))) ?_
    refine sc (sgF rfl fun hG => sp_move (od rfl)) ?_
    refine sc (sgF rfl fun hG => sp_neq (odw rfl hG) (odi)) ?_
    refine sc (sg (sp_pickOr (od rfl) fun hg => odw rfl (not_t hg))) ?_
    refine sc (sg (sp_move (od rfl))) ?_
    refine sc (sgF rfl fun hG => sp_move (od rfl)) ?_
    refine sc (sgF rfl fun hG => sp_neq (odw rfl hG) (odi)) ?_
    refine sc (sg (sp_pickOr (od rfl) fun hg => odw rfl (not_t hg))) ?_
    refine sc (sg (sp_move (od rfl))) ?_
    refine sc (sgF rfl fun hG => sp_move (od rfl)) ?_
    refine sc (sgF rfl fun hG => sp_not (odw rfl hG)) ?_
    refine sc (sg (sp_pickOr (od rfl) fun hg => odw rfl (not_t hg))) ?_
    refine sc (sg (sp_move (od rfl))) ?_
    refine sc (sgF rfl fun hG => sp_move (od rfl)) ?_
    refine sc (sgF rfl fun hG => sp_neq (odw rfl hG) (odi)) ?_
    refine sc (sg (sp_pickOr (od rfl) fun hg => odw rfl (not_t hg))) ?_
    refine sn fun a w hS => ?_
    refine exit_then ?_
    refine st_cond hS rfl (fun hb => ?_) (fun hb => ?_)
    · have h := ite_t hb h
      refine wp_seq ?_
      refine st_reg mixed (by kernel_rfl) hS ?_
      refine sc (sg (sp_assign (odb))) ?_
      refine sn fun a w hS => ?_
      refine exit_then ?_
      refine wp_ret ?_
      refine exit_thenR ?_
      cases h
      exact st_ret hS (run_results1 Try.results16 a w) (hS.get rfl)
    · have h := ite_f hb h
      refine wp_skip ?_
      refine exit_then ?_
      refine wp_seq ?_
      obtain ⟨v_27, e_28, h⟩ := bind_some h
      refine st_reg mixed (by kernel_rfl) hS ?_
      refine sc (sg (sp_load ty24 (od rfl))) ?_
      refine sc (sg (sp_call en18 (f18_ok e_28) ⟨od rfl, odi, odi, odi, trivial⟩)) ?_
      refine sc (sg (sp_move (od rfl))) ?_
      refine sc (sg (sp_extract (od rfl) rfl)) ?_
      refine sc (sg (sp_extract (od rfl) rfl)) ?_
      refine sc (sg (sp_assign (od rfl))) ?_
      refine sc (sg (sp_assign (od rfl))) ?_
      refine sn fun a w hS => ?_
      refine exit_then ?_
      refine wp_seq ?_
      obtain ⟨v_29, e_30, h⟩ := bind_some h
      refine st_reg mixed (by kernel_rfl) hS ?_
      refine sc (sg (sp_load ty24 (od rfl))) ?_
      refine sc (sg (sp_call en22 (f22_ok e_30) ⟨od rfl, odi, odi, odi, trivial⟩)) ?_
      refine sc (sg (sp_move (od rfl))) ?_
      refine sc (sg (sp_extract (od rfl) rfl)) ?_
      refine sc (sg (sp_extract (od rfl) rfl)) ?_
      refine sc (sg (sp_extract (od rfl) rfl)) ?_
      refine sc (sg (sp_assign (od rfl))) ?_
      refine sc (sg (sp_assign (od rfl))) ?_
      refine sc (sg (sp_assign (od rfl))) ?_
      refine sn fun a w hS => ?_
      refine exit_then ?_
      refine wp_seq ?_
      obtain ⟨v_31, e_32, h⟩ := bind_some h
      obtain ⟨v_33, e_34, h⟩ := bind_some h
      obtain ⟨v_35, e_36, h⟩ := bind_some h
      obtain ⟨v_37, e_38, h⟩ := bind_some h
      refine st_reg mixed (by kernel_rfl) hS ?_
      refine sc (sg (sp_move (od rfl))) ?_
      refine sc (sg (sp_eql (od rfl) (odi))) ?_
      refine sc (sg (sp_move (od rfl))) ?_
      refine sc (sgT rfl fun hG => sp_move (od rfl)) ?_
      refine sc (sgT rfl fun hG => sp_buildSlice [.const (.int .i64 (0))] ([0] : List Int) sl27 ze3 rfl rfl rfl rfl ⟨odi, trivial⟩) ?_
      refine sc (sgT rfl fun hG => sp_call en24 (f24_ok (guard_some e_32 hG)) ⟨odw rfl hG, odw rfl hG, trivial⟩) ?_
      refine sc (sg (sp_pickAnd (od rfl) fun hg => odw rfl hg)) ?_
      refine sc (sg (sp_move (od rfl))) ?_
      refine sc (sgT rfl fun hG => sp_move (od rfl)) ?_
      refine sc (sgT rfl fun hG => sp_eql (odw rfl hG) (odi)) ?_
      refine sc (sg (sp_pickAnd (od rfl) fun hg => odw rfl hg)) ?_
      refine sc (sg (sp_move (od rfl))) ?_
      refine sc (sgT rfl fun hG => sp_move (od rfl)) ?_
      refine sc (sg (sp_pickAnd (od rfl) fun hg => odw rfl hg)) ?_
      refine sc (sg (sp_move (od rfl))) ?_
      refine sc (sgT rfl fun hG => sp_move (od rfl)) ?_
      refine sc (sgT rfl fun hG => sp_eql (odw rfl hG) (odi)) ?_
      refine sc (sg (sp_pickAnd (od rfl) fun hg => odw rfl hg)) ?_
      refine sc (sg (sp_move (od rfl))) ?_
      refine sc (sgT rfl fun hG => sp_load ty24 (od rfl)) ?_
      refine sc (sgT rfl fun hG => sp_buildSlice [.const (.int .i64 (0)), .const (.int .i64 (1))] ([0, 1] : List Int) sl27 ze3 rfl rfl rfl rfl ⟨odi, odi, trivial⟩) ?_
      refine sc (sgT rfl fun hG => sp_buildSlice [.const (.int .i64 (0)), .const (.int .i64 (1)), .const (.int .i64 (2))] ([0, 1, 2] : List Int) sl27 ze3 rfl rfl rfl rfl ⟨odi, odi, odi, trivial⟩) ?_
      refine sc (sgT rfl fun hG => sp_call en64 (f64_ok (guard_some e_34 hG)) ⟨odw rfl hG, odw rfl hG, odi, odi, odi, odw rfl hG, trivial⟩) ?_
      refine sc (sgT rfl fun hG => sp_eql (odw rfl hG) (odi)) ?_
      refine sc (sg (sp_pickAnd (od rfl) fun hg => odw rfl hg)) ?_
      refine sc (sg (sp_move (od rfl))) ?_
      refine sc (sgT rfl fun hG => sp_load ty24 (od rfl)) ?_
      refine sc (sgT rfl fun hG => sp_buildSlice [.const (.int .i64 (0)), .const (.int .i64 (1))] ([0, 1] : List Int) sl27 ze3 rfl rfl rfl rfl ⟨odi, odi, trivial⟩) ?_
      refine sc (sgT rfl fun hG => sp_buildSlice [.const (.int .i64 (0)), .const (.int .i64 (1)), .const (.int .i64 (2))] ([0, 1, 2] : List Int) sl27 ze3 rfl rfl rfl rfl ⟨odi, odi, odi, trivial⟩) ?_
      refine sc (sgT rfl fun hG => sp_call en64 (f64_ok (guard_some e_36 hG)) ⟨odw rfl hG, odw rfl hG, odi, odi, odi, odw rfl hG, trivial⟩) ?_
      refine sc (sgT rfl fun hG => sp_eql (odw rfl hG) (odi)) ?_
      refine sc (sg (sp_pickAnd (od rfl) fun hg => odw rfl hg)) ?_
      refine sc (sg (sp_move (od rfl))) ?_
      refine sc (sgT rfl fun hG => bd24_ ) ?_
      refine sc (sgT rfl fun hG => sp_call en41 (f41_ok (guard_some e_38 hG)) ⟨odw rfl hG, trivial⟩) ?_
      refine sc (sgT rfl fun hG => sp_eql (odw rfl hG) (odi)) ?_
      refine sc (sg (sp_pickAnd (od rfl) fun hg => odw rfl hg)) ?_
      refine sc (sg (sp_assign (od rfl))) ?_
      refine sn fun a w hS => ?_
      refine exit_then ?_
      refine wp_ret ?_
      cases h
      exact st_ret hS (run_results1 Try.results16 a w) (hS.get rfl)

end Go.Proofs.Ytkbilbeaedocjaa
