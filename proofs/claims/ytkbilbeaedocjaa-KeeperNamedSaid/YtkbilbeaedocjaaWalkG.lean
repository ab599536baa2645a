/-
  What is proved: each Go function named here returns what its model tells, and changes nothing that was there; where the model tells something.
-/
import Derived.Test.YtkbilbeaedocjaaWalkC
import Derived.Test.YtkbilbeaedocjaaModelG
set_option linter.unusedVariables false
set_option maxRecDepth 100000
namespace Go.Proofs.Ytkbilbeaedocjaa
open Go Go.RowKit Go.Proofs.Ytkbilbeaedocjaa.Wh

theorem f97_ok {p0 : List (List (Vector Int 2))} {p1 : ((List (Vector Int 2)) → Option Bool)} {r : Int} (h : M.f97 p0 p1 = some r) : CallOK Try.prog 97 [isV p0, isV p1] (isV r) := by
  unfold M.f97 at h
  refine callS_of Try.func97 rfl Try.ntmps97 rfl fun F0 w0 a hS => ?_
  refine wp_seq ?_
  refine st_reg mixed (by kernel_rfl) hS ?_
  refine sc (sg (sp_assign (odi))) ?_
  refine sn fun a w hS => ?_
  refine exit_then ?_
  refine wp_seq ?_
  refine wp_seq ?_
  refine st_reg mixed (by kernel_rfl) hS ?_
  refine sc (sg (sp_move (od rfl))) ?_
  refine sc (sg (sp_len Try.underlying44 (od rfl))) ?_
  refine sc (sg (sp_move (odi))) ?_
  refine sn fun a w hS => ?_
  refine exit_then ?_
  refine wp_block ?_
  obtain ⟨o_4, e_5, hr_6⟩ := bind_some h
  refine c_loop (fun K a w => ∃ k i_1 s_3, K = k + 1 ∧ ForI _ _ _ o_4 k i_1 s_3 ∧ St 19 F0 [] [(0, isV (α := List (List (Vector Int 2))) p0), (1, isV (α := ((List (Vector Int 2)) → Option Bool)) p1), (7, isV (α := Int) (p0.length : Int)), (8, isV (α := Int) i_1)] w0 a w) ?_ ?_ ⟨_, _, _, rfl, for_init e_5, hS.weak ⟨od rfl, od rfl, od rfl, od rfl, trivial⟩⟩
  · rintro a w ⟨_, _, _, hk, _⟩; cases hk
  rintro K a w ⟨k_4, i_1, s_3, hk, hF_4, hS⟩
  obtain rfl := Nat.succ.inj hk
  refine wp_seq ?_
  refine st_reg mixed (by kernel_rfl) hS ?_
  refine sc (sg (sp_lss (od rfl) (od rfl))) ?_
  refine sn fun a w hS => ?_
  refine exit_then ?_
  refine wp_seq ?_
  refine st_cond hS rfl (fun hb => ?_) (fun hb => ?_)
  · refine wp_skip ?_
    refine exit_then ?_
    obtain ⟨k_4, o, rfl, h, hN_4, hL_4, hw_4⟩ := for_more hF_4 hb
    refine wp_seq ?_
    refine wp_block ?_
    refine wp_seq ?_
    refine st_reg mixed (by kernel_rfl) hS ?_
    refine sc (sg (sp_move (od rfl))) ?_
    refine sc (sg (sp_assign (od rfl))) ?_
    refine sn fun a w hS => ?_
    refine exit_then ?_
    refine wp_seq ?_
    obtain ⟨v_7, e_8, h⟩ := bind_some h
    obtain ⟨v_9, e_10, h⟩ := bind_some h
    refine st_reg mixed (by kernel_rfl) hS ?_
    refine sc (sg (sp_move (od rfl))) ?_
    refine sc (sg (sp_move (od rfl))) ?_
    refine sc (sg (sp_move (od rfl))) ?_
    refine sc (sg (sp_indexAddr sl44 (od rfl) (od rfl) e_8)) ?_
    refine sc (sg (sp_load ty48 (od rfl))) ?_
    refine sc (sg (sp_callV (od_fn63 (od rfl)) ⟨od rfl, trivial⟩ e_10)) ?_
    refine sn fun a w hS => ?_
    refine exit_then ?_
    refine st_cond hS rfl (fun hb => ?_) (fun hb => ?_)
    · have h := ite_t hb h
      refine wp_seq ?_
      refine st_reg mixed (by kernel_rfl) hS ?_
      refine sc (sg (sp_move (od rfl))) ?_
      refine sc (sg (sp_assign (od rfl))) ?_
      refine sn fun a w hS => ?_
      refine exit_then ?_
      refine wp_ret ?_
      refine exit_blockR ?_
      refine exit_thenR ?_
      cases h
      obtain rfl := hL_4 _ rfl
      have h := (elim_leave hr_6)
      refine exit_thenR ?_
      refine exit_blockR ?_
      refine exit_thenR ?_
      cases h
      exact st_ret hS (run_results1 Try.results97 a w) (hS.get rfl)
    · have h := ite_f hb h
      refine wp_skip ?_
      refine exit_block ?_
      refine exit_then ?_
      refine st_reg mixed (by kernel_rfl) hS ?_
      refine sc (sg (sp_add (od rfl) (odi))) ?_
      refine sc (sg (sp_move (od rfl))) ?_
      refine sn fun a w hS => ?_
      cases h
      exact ⟨k_4, _, _, rfl, hN_4 _ rfl, hS.weak ⟨od rfl, od rfl, od rfl, od (congrArg (fun z => some (isV (α := Int) z)) hw_4), trivial⟩⟩
  · refine wp_exit ?_
    obtain rfl := for_done hF_4 hb
    have h := elim_again hr_6
    refine exit_thenE ?_
    refine exit_thenE ?_
    refine exit_here ?_
    refine exit_then ?_
    refine wp_seq ?_
    refine st_reg mixed (by kernel_rfl) hS ?_
    refine sc (sg (sp_assign (odi))) ?_
    refine sn fun a w hS => ?_
    refine exit_then ?_
    refine wp_ret ?_
    cases h
    exact st_ret hS (run_results1 Try.results97 a w) (hS.get rfl)

theorem f43_ok {p0 : List (List (Vector Int 2))} {p1 : ((List (Vector Int 2)) → Option Bool)} {r : Bool} (h : M.f43 p0 p1 = some r) : CallOK Try.prog 43 [isV p0, isV p1] (isV r) := by
  unfold M.f43 at h
  refine callS_of Try.func43 rfl Try.ntmps43 rfl fun F0 w0 a hS => ?_
  refine wp_seq ?_
  refine st_reg mixed (by kernel_rfl) hS ?_
  refine sc (sg (sp_assign (odb))) ?_
  refine sn fun a w hS => ?_
  refine exit_then ?_
  refine wp_seq ?_
  obtain ⟨v_1, e_2, h⟩ := bind_some h
  refine st_reg mixed (by kernel_rfl) hS ?_
  refine sc (sg (sp_move (od rfl))) ?_
  refine sc (sg (sp_move (od rfl))) ?_
  refine sc (sg (sp_call en97 (f97_ok e_2) ⟨od rfl, od rfl, trivial⟩)) ?_
  refine sc (sg (sp_geq (od rfl) (odi))) ?_
  refine sc (sg (sp_assign (od rfl))) ?_
  refine sn fun a w hS => ?_
  refine exit_then ?_
  refine wp_ret ?_
  cases h
  exact st_ret hS (run_results1 Try.results43 a w) (hS.get rfl)

theorem f51_ok {p0 : List (Vector Int 2)} {r : Bool} (h : M.f51 p0 = some r) : CallOK Try.prog 51 [isV p0] (isV r) := by
  unfold M.f51 at h
  refine callS_of Try.func51 rfl Try.ntmps51 rfl fun F0 w0 a hS => ?_
  refine wp_seq ?_
  refine st_reg mixed (by kernel_rfl) hS ?_
  refine sc (sg (sp_assign (odb))) ?_
  refine sn fun a w hS => ?_
  refine exit_then ?_
  refine wp_seq ?_
  refine st_reg mixed (by kernel_rfl) hS ?_
  refine sc (sg (sp_move (od rfl))) ?_
  refine sc (sg (sp_len Try.underlying48 (od rfl))) ?_
  refine sc (sg (sp_gtr (od rfl) (odi))) ?_
  refine sc (sg (sp_assign (od rfl))) ?_
  refine sn fun a w hS => ?_
  refine exit_then ?_
  refine wp_ret ?_
  cases h
  exact st_ret hS (run_results1 Try.results51 a w) (hS.get rfl)

theorem f103_ok {fuel : Nat} {p0 : List (Vector Int 2)} {p1 : Vector Int 2} {r : (List (Vector Int 2))} (h : M.f103 fuel p0 p1 = some r) : CallOK Try.prog 103 [isV p0, isV p1] (isV r) := by
  unfold M.f103 at h
  refine callS_of Try.func103 rfl Try.ntmps103 rfl fun F0 w0 a hS => ?_
  refine wp_seq ?_
  refine st_reg mixed (by kernel_rfl) hS ?_
  refine sc (sg (sp_box (od rfl))) ?_
  refine sc (sg (sp_assign (odnil (α := Vector Int 2)))) ?_
  refine sn fun a w hS => ?_
  refine exit_then ?_
  refine wp_seq ?_
  refine st_reg mixed (by kernel_rfl) hS ?_
  refine sc (sg (sp_assign (φ := Pr.is (.slice none 0 0)) (odc fun _ => rfl))) ?_
  refine sn fun a w hS => ?_
  have hS := st_nil (α := Vector Int 2) 54 hS
  have hS : St _ F0 [Item.sl (α := Vector Int 2) 54 (.slice none 0 0) ([] : List (Vector Int 2))] _ w0 _ _ := hS
  refine exit_then ?_
  refine wp_seq ?_
  refine wp_seq ?_
  refine st_reg mixed (by kernel_rfl) hS ?_
  refine sc (sg (sp_assign (odi))) ?_
  refine sn fun a w hS => ?_
  refine exit_then ?_
  refine wp_block ?_
  obtain ⟨o_2, e_3, hr_4⟩ := bind_some h
  refine c_loop (fun K a w => ∃ s_1 : Int, loopM _ K s_1 = some o_2 ∧ St 88 F0 [Item.sl (α := Vector Int 2) 54 (.slice none 0 0) ([] : List (Vector Int 2))] [(0, isV (α := List (Vector Int 2)) p0), (3, isA (α := Vector Int 2) p1), (5, Pr.is (.slice none 0 0)), (6, isV (α := Int) s_1)] w0 a w) ?_ ?_ ⟨_, e_3, hS.weak ⟨od rfl, od rfl, od rfl, od rfl, trivial⟩⟩
  · rintro a w ⟨_, hk, _⟩; cases hk
  rintro K a w ⟨s_1, hF_2, hS⟩
  obtain ⟨o, h, hN_2, hL_2⟩ := loop_more hF_2
  refine wp_seq ?_
  refine wp_seq ?_
  refine st_reg mixed (by kernel_rfl) hS ?_
  refine sc (sg (sp_move (od rfl))) ?_
  refine sc (sg (sp_move (od rfl))) ?_
  refine sc (sg (sp_len Try.underlying48 (od rfl))) ?_
  refine sc (sg (sp_lss (od rfl) (od rfl))) ?_
  refine sn fun a w hS => ?_
  refine exit_then ?_
  refine st_cond hS rfl (fun hb => ?_) (fun hb => ?_)
  · have h := ite_t hb h
    refine wp_skip ?_
    refine exit_then ?_
    refine wp_seq ?_
    refine wp_block ?_
    refine wp_seq ?_
    obtain ⟨v_5, e_6, h⟩ := bind_some h
    obtain ⟨v_7, e_8, h⟩ := bind_some h
    obtain ⟨v_9, e_10, h⟩ := bind_some h
    obtain ⟨v_11, e_12, h⟩ := bind_some h
    obtain ⟨v_13, e_14, h⟩ := bind_some h
    obtain ⟨v_15, e_16, h⟩ := bind_some h
    refine st_reg mixed (by kernel_rfl) hS ?_
    refine sc (sg (sp_move (od rfl))) ?_
    refine sc (sg (sp_move (od rfl))) ?_
    refine sc (sg (sp_indexAddr sl48 (od rfl) (od rfl) e_6)) ?_
    refine sc (sg (sp_indexAddrA ar54 (od rfl) (odi) e_8)) ?_
    refine sc (sg (sp_load ty3 (od rfl))) ?_
    refine sc (sg (sp_indexAddrA ar54 (od rfl) (odi) e_10)) ?_
    refine sc (sg (sp_load ty3 (od rfl))) ?_
    refine sc (sg (sp_leq (od rfl) (od rfl))) ?_
    refine sc (sg (sp_move (od rfl))) ?_
    refine sc (sgT rfl fun hG => sp_move (od rfl)) ?_
    refine sc (sgT rfl fun hG => sp_move (od rfl)) ?_
    refine sc (sgT rfl fun hG => sp_indexAddr sl48 (odw rfl hG) (odw rfl hG) (guard_some e_12 hG)) ?_
    refine sc (sgT rfl fun hG => sp_indexAddrA ar54 (odw rfl hG) (odi) (guard_some e_14 hG)) ?_
    refine sc (sgT rfl fun hG => sp_load ty3 (odw rfl hG)) ?_
    refine sc (sgT rfl fun hG => sp_indexAddrA ar54 (od rfl) (odi) (guard_some e_16 hG)) ?_
    refine sc (sgT rfl fun hG => sp_load ty3 (odw rfl hG)) ?_
    refine sc (sgT rfl fun hG => sp_leq (odw rfl hG) (odw rfl hG)) ?_
    refine sc (sg (sp_pickAnd (od rfl) fun hg => odw rfl hg)) ?_
    refine sn fun a w hS => ?_
    refine exit_then ?_
    refine st_cond hS rfl (fun hb => ?_) (fun hb => ?_)
    · have h := ite_t hb h
      refine wp_seq ?_
      have hS := st_drop 0 hS
      refine st_reg mixed (by kernel_rfl) hS ?_
      refine sc (sg (sp_move (od rfl))) ?_
      refine sc (sg (sp_assign (od rfl))) ?_
      refine sn fun a w hS => ?_
      refine exit_then ?_
      refine wp_ret ?_
      refine exit_blockR ?_
      refine exit_thenR ?_
      cases h
      obtain rfl := hL_2 _ rfl
      have h := (sum_inr hr_4)
      refine exit_thenR ?_
      refine exit_blockR ?_
      refine exit_thenR ?_
      cases h
      exact st_ret hS (run_results1 Try.results103 a w) (hS.get rfl)
    · have h := ite_f hb h
      refine wp_skip ?_
      refine exit_block ?_
      refine exit_then ?_
      refine st_reg mixed (by kernel_rfl) hS ?_
      refine sc (sg (sp_move (od rfl))) ?_
      refine sc (sg (sp_add (od rfl) (odi))) ?_
      refine sc (sg (sp_assign (od rfl))) ?_
      refine sn fun a w hS => ?_
      cases h
      exact ⟨_, hN_2 _ rfl, hS.weak ⟨od rfl, od rfl, od rfl, od rfl, trivial⟩⟩
  · have h := ite_f hb h
    refine wp_exit ?_
    refine exit_thenE ?_
    cases h
    obtain rfl := hL_2 _ rfl
    have h := (sum_inl hr_4)
    refine exit_thenE ?_
    refine exit_here ?_
    refine exit_then ?_
    refine wp_seq ?_
    refine st_reg mixed (by kernel_rfl) hS ?_
    refine sc (sg (sp_assign (odb))) ?_
    refine sn fun a w hS => ?_
    refine exit_then ?_
    refine wp_seq ?_
    refine wp_seq ?_
    refine st_reg mixed (by kernel_rfl) hS ?_
    refine sc (sg (sp_assign (odi))) ?_
    refine sn fun a w hS => ?_
    refine exit_then ?_
    refine wp_block ?_
    obtain ⟨o_18, e_19, hr_20⟩ := bind_some h
    refine c_loop (fun K a w => ∃ s_17 : Bool × Int × (List (Vector Int 2)), ∃ u_21 : Value, loopM _ K s_17 = some o_18 ∧ St 88 F0 [Item.sl (α := Vector Int 2) 54 u_21 s_17.2.2] [(0, isV (α := List (Vector Int 2)) p0), (3, isA (α := Vector Int 2) p1), (5, Pr.is u_21), (7, isV (α := Bool) s_17.1), (8, isV (α := Int) s_17.2.1)] w0 a w) ?_ ?_ ⟨_, (.slice none 0 0), e_19, hS.weak ⟨od rfl, od rfl, od rfl, od rfl, od rfl, trivial⟩⟩
    · rintro a w ⟨_, _, hk, _⟩; cases hk
    rintro K a w ⟨s_17, u_21, hF_18, hS⟩
    obtain ⟨o, h, hN_18, hL_18⟩ := loop_more hF_18
    refine wp_seq ?_
    refine wp_seq ?_
    refine st_reg mixed (by kernel_rfl) hS ?_
    refine sc (sg (sp_move (od rfl))) ?_
    refine sc (sg (sp_move (od rfl))) ?_
    refine sc (sg (sp_len Try.underlying48 (od rfl))) ?_
    refine sc (sg (sp_lss (od rfl) (od rfl))) ?_
    refine sn fun a w hS => ?_
    refine exit_then ?_
    refine st_cond hS rfl (fun hb => ?_) (fun hb => ?_)
    · have h := ite_t hb h
      refine wp_skip ?_
      refine exit_then ?_
      refine wp_seq ?_
      refine wp_block ?_
      refine wp_seq ?_
      refine wp_seq ?_
      obtain ⟨v_22, e_23, h⟩ := bind_some h
      obtain ⟨v_24, e_25, h⟩ := bind_some h
      obtain ⟨v_26, e_27, h⟩ := bind_some h
      obtain ⟨v_28, e_29, h⟩ := bind_some h
      obtain ⟨v_30, e_31, h⟩ := bind_some h
      obtain ⟨v_32, e_33, h⟩ := bind_some h
      refine st_reg mixed (by kernel_rfl) hS ?_
      refine sc (sg (sp_indexAddrA ar54 (od rfl) (odi) e_23)) ?_
      refine sc (sg (sp_load ty3 (od rfl))) ?_
      refine sc (sg (sp_move (od rfl))) ?_
      refine sc (sg (sp_move (od rfl))) ?_
      refine sc (sg (sp_indexAddr sl48 (od rfl) (od rfl) e_25)) ?_
      refine sc (sg (sp_indexAddrA ar54 (od rfl) (odi) e_27)) ?_
      refine sc (sg (sp_load ty3 (od rfl))) ?_
      refine sc (sg (sp_leq (od rfl) (od rfl))) ?_
      refine sc (sg (sp_move (od rfl))) ?_
      refine sc (sgT rfl fun hG => sp_indexAddrA ar54 (od rfl) (odi) (guard_some e_29 hG)) ?_
      refine sc (sgT rfl fun hG => sp_load ty3 (odw rfl hG)) ?_
      refine sc (sgT rfl fun hG => sp_move (od rfl)) ?_
      refine sc (sgT rfl fun hG => sp_move (od rfl)) ?_
      refine sc (sgT rfl fun hG => sp_indexAddr sl48 (odw rfl hG) (odw rfl hG) (guard_some e_31 hG)) ?_
      refine sc (sgT rfl fun hG => sp_indexAddrA ar54 (odw rfl hG) (odi) (guard_some e_33 hG)) ?_
      refine sc (sgT rfl fun hG => sp_load ty3 (odw rfl hG)) ?_
      refine sc (sgT rfl fun hG => sp_leq (odw rfl hG) (odw rfl hG)) ?_
      refine sc (sg (sp_pickAnd (od rfl) fun hg => odw rfl hg)) ?_
      refine sn fun a w hS => ?_
      refine exit_then ?_
      refine st_cond hS rfl (fun hb => ?_) (fun hb => ?_)
      · have h := ite_t hb h
        refine wp_exit ?_
        refine exit_thenE ?_
        refine exit_here ?_
        refine exit_then ?_
        refine st_reg mixed (by kernel_rfl) hS ?_
        refine sc (sg (sp_move (od rfl))) ?_
        refine sc (sg (sp_add (od rfl) (odi))) ?_
        refine sc (sg (sp_assign (od rfl))) ?_
        refine sn fun a w hS => ?_
        cases h
        exact ⟨_, u_21, hN_18 _ rfl, hS.weak ⟨od rfl, od rfl, od rfl, od rfl, od rfl, trivial⟩⟩
      · have h := ite_f hb h
        refine wp_skip ?_
        refine exit_then ?_
        refine wp_seq ?_
        refine wp_seq ?_
        obtain ⟨v_34, e_35, h⟩ := bind_some h
        obtain ⟨v_36, e_37, h⟩ := bind_some h
        obtain ⟨v_38, e_39, h⟩ := bind_some h
        refine st_reg mixed (by kernel_rfl) hS ?_
        refine sc (sg (sp_move (od rfl))) ?_
        refine sc (sg (sp_not (od rfl))) ?_
        refine sc (sg (sp_move (od rfl))) ?_
        refine sc (sgT rfl fun hG => sp_indexAddrA ar54 (od rfl) (odi) (guard_some e_35 hG)) ?_
        refine sc (sgT rfl fun hG => sp_load ty3 (odw rfl hG)) ?_
        refine sc (sgT rfl fun hG => sp_move (od rfl)) ?_
        refine sc (sgT rfl fun hG => sp_move (od rfl)) ?_
        refine sc (sgT rfl fun hG => sp_indexAddr sl48 (odw rfl hG) (odw rfl hG) (guard_some e_37 hG)) ?_
        refine sc (sgT rfl fun hG => sp_indexAddrA ar54 (odw rfl hG) (odi) (guard_some e_39 hG)) ?_
        refine sc (sgT rfl fun hG => sp_load ty3 (odw rfl hG)) ?_
        refine sc (sgT rfl fun hG => sp_lss (odw rfl hG) (odw rfl hG)) ?_
        refine sc (sg (sp_pickAnd (od rfl) fun hg => odw rfl hg)) ?_
        refine sn fun a w hS => ?_
        refine exit_then ?_
        obtain ⟨⟨y_41, y_42⟩, hj_40, h⟩ := bind_some h
        refine wp_mono (Q := fun e a w => e = Exit.normal ∧ ∃ u_43 : Value, St 88 F0 [Item.sl (α := Vector Int 2) 54 u_43 y_42] [(0, isV (α := List (Vector Int 2)) p0), (3, isA (α := Vector Int 2) p1), (5, Pr.is u_43), (7, isV (α := Bool) y_41), (8, isV (α := Int) s_17.2.1)] w0 a w) ?_ ?_
        · refine st_cond hS rfl (fun hb => ?_) (fun hb => ?_)
          · have h := ite_t hb hj_40
            refine wp_seq ?_
            obtain ⟨z_44, e_45, h⟩ := bind_some h
            refine l_start ?_
            refine s_c hS (sg (sp_move (od rfl))) rfl fun a w hS hM => ?_
            refine s_c hS (sg (sp_load ty54 (od rfl))) rfl fun a w hS hM => ?_
            refine s_c hS (sg (sp_buildSlice [.tmp 71] ([p1] : List (Vector Int 2)) sl48 ze54 rfl rfl rfl rfl ⟨od rfl, trivial⟩)) rfl fun a w hS hM => ?_
            refine s_append (k := 0) (Δ := [(0, isV (α := List (Vector Int 2)) p0), (3, isA (α := Vector Int 2) p1), (8, isV (α := Int) s_17.2.1), (70, Pr.is u_21), (72, isV (α := List (Vector Int 2)) ([p1] : List (Vector Int 2)))]) sl48 ze54 hS rfl ⟨od rfl, od rfl, od rfl, od rfl, od rfl, trivial⟩ ⟨fun _ _ _ _ h => h, fun _ _ _ _ h => h, fun _ _ _ _ h => h, fun _ _ _ _ h => h, fun _ _ _ _ h => h, trivial⟩ (od rfl) (od rfl) e_45 rfl fun a w u_46 hS hM => ?_
            have hS : St _ F0 [Item.sl (α := Vector Int 2) 54 u_46 z_44] _ w0 _ _ := hS
            refine s_c hS (sg (sp_assign (od rfl))) rfl fun a w hS hM => ?_
            refine l_end ?_
            refine exit_then ?_
            refine st_reg mixed (by kernel_rfl) hS ?_
            refine sc (sg (sp_assign (odb))) ?_
            refine sn fun a w hS => ?_
            cases h
            exact ⟨rfl, u_46, hS.weak ⟨od rfl, od rfl, od rfl, od rfl, od rfl, trivial⟩⟩
          · have h := ite_f hb hj_40
            refine wp_skip ?_
            cases h
            exact ⟨rfl, u_21, hS.weak ⟨od rfl, od rfl, od rfl, od rfl, od rfl, trivial⟩⟩
        rintro e a w ⟨rfl, u_43, hS⟩
        refine exit_then ?_
        obtain ⟨v_47, e_48, h⟩ := bind_some h
        obtain ⟨z_49, e_50, h⟩ := bind_some h
        refine l_start ?_
        refine s_c hS (sg (sp_move (od rfl))) rfl fun a w hS hM => ?_
        refine s_c hS (sg (sp_move (od rfl))) rfl fun a w hS hM => ?_
        refine s_c hS (sg (sp_move (od rfl))) rfl fun a w hS hM => ?_
        refine s_c hS (sg (sp_indexAddr sl48 (od rfl) (od rfl) e_48)) rfl fun a w hS hM => ?_
        refine s_c hS (sg (sp_load ty54 (od rfl))) rfl fun a w hS hM => ?_
        refine s_c hS (sg (sp_buildSlice [.tmp 78] ([v_47] : List (Vector Int 2)) sl48 ze54 rfl rfl rfl rfl ⟨od rfl, trivial⟩)) rfl fun a w hS hM => ?_
        refine s_append (k := 0) (Δ := [(0, isV (α := List (Vector Int 2)) p0), (3, isA (α := Vector Int 2) p1), (7, isV (α := Bool) y_41), (8, isV (α := Int) s_17.2.1), (74, Pr.is u_43), (79, isV (α := List (Vector Int 2)) ([v_47] : List (Vector Int 2)))]) sl48 ze54 hS rfl ⟨od rfl, od rfl, od rfl, od rfl, od rfl, od rfl, trivial⟩ ⟨fun _ _ _ _ h => h, fun _ _ _ _ h => h, fun _ _ _ _ h => h, fun _ _ _ _ h => h, fun _ _ _ _ h => h, fun _ _ _ _ h => h, trivial⟩ (od rfl) (od rfl) e_50 rfl fun a w u_51 hS hM => ?_
        have hS : St _ F0 [Item.sl (α := Vector Int 2) 54 u_51 z_49] _ w0 _ _ := hS
        refine s_c hS (sg (sp_assign (od rfl))) rfl fun a w hS hM => ?_
        refine l_end ?_
        refine exit_block ?_
        refine exit_then ?_
        refine st_reg mixed (by kernel_rfl) hS ?_
        refine sc (sg (sp_move (od rfl))) ?_
        refine sc (sg (sp_add (od rfl) (odi))) ?_
        refine sc (sg (sp_assign (od rfl))) ?_
        refine sn fun a w hS => ?_
        cases h
        exact ⟨_, u_51, hN_18 _ rfl, hS.weak ⟨od rfl, od rfl, od rfl, od rfl, od rfl, trivial⟩⟩
    · have h := ite_f hb h
      refine wp_exit ?_
      refine exit_thenE ?_
      cases h
      obtain rfl := hL_18 _ rfl
      have h := hr_20
      refine exit_thenE ?_
      refine exit_here ?_
      refine exit_then ?_
      refine wp_seq ?_
      refine wp_seq ?_
      refine st_reg mixed (by kernel_rfl) hS ?_
      refine sc (sg (sp_move (od rfl))) ?_
      refine sc (sg (sp_not (od rfl))) ?_
      refine sn fun a w hS => ?_
      refine exit_then ?_
      obtain ⟨y_53, hj_52, h⟩ := bind_some h
      refine wp_mono (Q := fun e a w => e = Exit.normal ∧ ∃ u_54 : Value, St 88 F0 [Item.sl (α := Vector Int 2) 54 u_54 y_53] [(5, Pr.is u_54)] w0 a w) ?_ ?_
      · refine st_cond hS rfl (fun hb => ?_) (fun hb => ?_)
        · have h := ite_t hb hj_52
          obtain ⟨z_55, e_56, h⟩ := bind_some h
          refine l_start ?_
          refine s_c hS (sg (sp_move (od rfl))) rfl fun a w hS hM => ?_
          refine s_c hS (sg (sp_load ty54 (od rfl))) rfl fun a w hS hM => ?_
          refine s_c hS (sg (sp_buildSlice [.tmp 84] ([p1] : List (Vector Int 2)) sl48 ze54 rfl rfl rfl rfl ⟨od rfl, trivial⟩)) rfl fun a w hS hM => ?_
          refine s_append (k := 0) (Δ := [(83, Pr.is u_21), (85, isV (α := List (Vector Int 2)) ([p1] : List (Vector Int 2)))]) sl48 ze54 hS rfl ⟨od rfl, od rfl, trivial⟩ ⟨fun _ _ _ _ h => h, fun _ _ _ _ h => h, trivial⟩ (od rfl) (od rfl) e_56 rfl fun a w u_57 hS hM => ?_
          have hS : St _ F0 [Item.sl (α := Vector Int 2) 54 u_57 z_55] _ w0 _ _ := hS
          refine s_c hS (sg (sp_assign (od rfl))) rfl fun a w hS hM => ?_
          refine l_end ?_
          cases h
          exact ⟨rfl, u_57, hS.weak ⟨od rfl, trivial⟩⟩
        · have h := ite_f hb hj_52
          refine wp_skip ?_
          cases h
          exact ⟨rfl, u_21, hS.weak ⟨od rfl, trivial⟩⟩
      rintro e a w ⟨rfl, u_54, hS⟩
      refine exit_then ?_
      refine wp_seq ?_
      refine st_reg mixed (by kernel_rfl) hS ?_
      refine sc (sg (sp_move (od rfl))) ?_
      refine sc (sg (sp_assign (od rfl))) ?_
      refine sn fun a w hS => ?_
      refine exit_then ?_
      refine wp_ret ?_
      have hS0 := hS
      have hS := st_freeze 0 4 hS rfl rfl
      have hS := st_also (t := 4) (q := 5) hS0 hS rfl rfl rfl
      have hS := st_also (t := 4) (q := 87) hS0 hS rfl rfl rfl
      cases h
      exact st_ret hS (run_results1 Try.results103 a w) (hS.get rfl)

theorem f52_ok {fuel : Nat} {p0 : S_api_Market} {p1 : Int} {r : (List (List (Vector Int 2))) × Int} (h : M.f52 fuel p0 p1 = some r) : CallOK Try.prog 52 [isV p0, isV p1] (isTup [isV r.1, isV r.2]) := by
  unfold M.f52 at h
  refine callS_of Try.func52 rfl Try.ntmps52 rfl fun F0 w0 a hS => ?_
  refine wp_seq ?_
  refine st_reg mixed (by kernel_rfl) hS ?_
  refine sc (sg (sp_box (od rfl))) ?_
  refine sc (sg (sp_assign (odnil (α := List (Vector Int 2))))) ?_
  refine sc (sg (sp_assign (odi))) ?_
  refine sn fun a w hS => ?_
  refine exit_then ?_
  refine wp_seq ?_
  refine wp_seq ?_
  obtain ⟨v_1, e_2, h⟩ := bind_some h
  refine st_reg mixed (by kernel_rfl) hS ?_
  refine sc (sg (sp_load ty24 (od rfl))) ?_
  refine sc (sg (sp_move (od rfl))) ?_
  refine sc (sg (sp_buildSlice [.tmp 15] ([p1] : List Int) sl27 ze3 rfl rfl rfl rfl ⟨od rfl, trivial⟩)) ?_
  refine sc (sg (sp_call en72 (f72_ok e_2) ⟨od rfl, odnil (α := Int), odi, od rfl, trivial⟩)) ?_
  refine sc (sg (sp_assign (od rfl))) ?_
  refine sn fun a w hS => ?_
  refine exit_then ?_
  refine wp_seq ?_
  refine st_reg mixed (by kernel_rfl) hS ?_
  refine sc (sg (sp_move (od rfl))) ?_
  refine sc (sg (sp_neq (od rfl) (odi))) ?_
  refine sn fun a w hS => ?_
  refine exit_then ?_
  refine st_cond hS rfl (fun hb => ?_) (fun hb => ?_)
  · have h := ite_t hb h
    refine wp_seq ?_
    refine st_reg mixed (by kernel_rfl) hS ?_
    refine sc (sg (sp_move (od rfl))) ?_
    refine sc (sg (sp_assign (odnil (α := List (Vector Int 2))))) ?_
    refine sc (sg (sp_assign (od rfl))) ?_
    refine sn fun a w hS => ?_
    refine exit_then ?_
    refine wp_ret ?_
    refine exit_thenR ?_
    cases h
    exact st_ret hS (run_results2 Try.results52 a w) (⟨_, rfl, hS.get rfl, hS.get rfl, trivial⟩)
  · have h := ite_f hb h
    refine wp_skip ?_
    refine exit_then ?_
    refine wp_seq ?_
    refine st_reg mixed (by kernel_rfl) hS ?_
    refine sc (sg (sp_assign (φ := Pr.is (.slice none 0 0)) (odc fun _ => rfl))) ?_
    refine sn fun a w hS => ?_
    have hS := st_nil (α := List (Vector Int 2)) 48 hS
    have hS : St _ F0 [Item.sl (α := List (Vector Int 2)) 48 (.slice none 0 0) ([] : List (List (Vector Int 2)))] _ w0 _ _ := hS
    refine exit_then ?_
    refine wp_seq ?_
    refine wp_seq ?_
    refine st_reg mixed (by kernel_rfl) hS ?_
    refine sc (sg (sp_assign (odi))) ?_
    refine sn fun a w hS => ?_
    refine exit_then ?_
    refine wp_block ?_
    obtain ⟨o_4, e_5, hr_6⟩ := bind_some h
    refine c_loop (fun K a w => ∃ s_3 : Int × (List (List (Vector Int 2))), ∃ u_7 : Value, loopM _ K s_3 = some o_4 ∧ St 79 F0 [Item.sl (α := List (Vector Int 2)) 48 u_7 s_3.2] [(1, isV (α := Int) p1), (2, isA (α := S_api_Market) p0), (7, Pr.is u_7), (8, isV (α := Int) s_3.1)] w0 a w) ?_ ?_ ⟨_, (.slice none 0 0), e_5, hS.weak ⟨od rfl, od rfl, od rfl, od rfl, trivial⟩⟩
    · rintro a w ⟨_, _, hk, _⟩; cases hk
    rintro K a w ⟨s_3, u_7, hF_4, hS⟩
    obtain ⟨o, h, hN_4, hL_4⟩ := loop_more hF_4
    refine wp_seq ?_
    refine wp_seq ?_
    refine st_reg mixed (by kernel_rfl) hS ?_
    refine sc (sg (sp_move (od rfl))) ?_
    refine sc (sg (sp_fieldAddr fd24_0 (od rfl))) ?_
    refine sc (sg (sp_load ty3 (od rfl))) ?_
    refine sc (sg (sp_lss (od rfl) (od rfl))) ?_
    refine sn fun a w hS => ?_
    refine exit_then ?_
    refine st_cond hS rfl (fun hb => ?_) (fun hb => ?_)
    · have h := ite_t hb h
      refine wp_skip ?_
      refine exit_then ?_
      refine wp_seq ?_
      refine wp_block ?_
      obtain ⟨z_8, e_9, h⟩ := bind_some h
      refine l_start ?_
      refine s_c hS (sg (sp_move (od rfl))) rfl fun a w hS hM => ?_
      refine s_c hS (sg (sp_buildSlice [.const (.slice none 0 0)] ([([] : List (Vector Int 2))] : List (List (Vector Int 2))) sl44 ze48 rfl rfl rfl rfl ⟨odnil (α := Vector Int 2), trivial⟩)) rfl fun a w hS hM => ?_
      refine s_append (k := 0) (Δ := [(1, isV (α := Int) p1), (2, isA (α := S_api_Market) p0), (8, isV (α := Int) s_3.1), (27, Pr.is u_7), (28, isV (α := List (List (Vector Int 2))) ([([] : List (Vector Int 2))] : List (List (Vector Int 2))))]) sl44 ze48 hS rfl ⟨od rfl, od rfl, od rfl, od rfl, od rfl, trivial⟩ ⟨fun _ _ _ _ h => h, fun _ _ _ _ h => h, fun _ _ _ _ h => h, fun _ _ _ _ h => h, fun _ _ _ _ h => h, trivial⟩ (od rfl) (od rfl) e_9 rfl fun a w u_10 hS hM => ?_
      have hS : St _ F0 [Item.sl (α := List (Vector Int 2)) 48 u_10 z_8] _ w0 _ _ := hS
      refine s_c hS (sg (sp_assign (od rfl))) rfl fun a w hS hM => ?_
      refine l_end ?_
      refine exit_block ?_
      refine exit_then ?_
      refine st_reg mixed (by kernel_rfl) hS ?_
      refine sc (sg (sp_move (od rfl))) ?_
      refine sc (sg (sp_add (od rfl) (odi))) ?_
      refine sc (sg (sp_assign (od rfl))) ?_
      refine sn fun a w hS => ?_
      cases h
      exact ⟨_, u_10, hN_4 _ rfl, hS.weak ⟨od rfl, od rfl, od rfl, od rfl, trivial⟩⟩
    · have h := ite_f hb h
      refine wp_exit ?_
      refine exit_thenE ?_
      cases h
      obtain rfl := hL_4 _ rfl
      have h := hr_6
      refine exit_thenE ?_
      refine exit_here ?_
      refine exit_then ?_
      refine wp_seq ?_
      refine wp_seq ?_
      refine st_reg mixed (by kernel_rfl) hS ?_
      refine sc (sg (sp_assign (odi))) ?_
      refine sn fun a w hS => ?_
      refine exit_then ?_
      refine wp_block ?_
      obtain ⟨o_12, e_13, hr_14⟩ := bind_some h
      refine c_loop (fun K a w => ∃ s_11 : Int × (List (List (Vector Int 2))), loopM _ K s_11 = some o_12 ∧ St 79 F0 [Item.sl (α := List (Vector Int 2)) 48 u_7 s_11.2] [(1, isV (α := Int) p1), (2, isA (α := S_api_Market) p0), (7, Pr.is u_7), (9, isV (α := Int) s_11.1)] w0 a w) ?_ ?_ ⟨_, e_13, hS.weak ⟨od rfl, od rfl, od rfl, od rfl, trivial⟩⟩
      · rintro a w ⟨_, hk, _⟩; cases hk
      rintro K a w ⟨s_11, hF_12, hS⟩
      obtain ⟨o, h, hN_12, hL_12⟩ := loop_more hF_12
      refine wp_seq ?_
      refine wp_seq ?_
      obtain ⟨v_15, e_16, h⟩ := bind_some h
      refine st_reg mixed (by kernel_rfl) hS ?_
      refine sc (sg (sp_move (od rfl))) ?_
      refine sc (sg (sp_fieldAddr fd24_2 (od rfl))) ?_
      refine sc (sg (sp_load ty22 (od rfl))) ?_
      refine sc (sg (sp_len Try.underlying22 (od rfl))) ?_
      refine sc (sg (sp_shl (odi) (od rfl) e_16)) ?_
      refine sc (sg (sp_lss (od rfl) (od rfl))) ?_
      refine sn fun a w hS => ?_
      refine exit_then ?_
      refine st_cond hS rfl (fun hb => ?_) (fun hb => ?_)
      · have h := ite_t hb h
        refine wp_skip ?_
        refine exit_then ?_
        refine wp_seq ?_
        refine wp_block ?_
        refine wp_seq ?_
        obtain ⟨v_17, e_18, h⟩ := bind_some h
        refine st_reg mixed (by kernel_rfl) hS ?_
        refine sc (sg (sp_load ty24 (od rfl))) ?_
        refine sc (sg (sp_move (od rfl))) ?_
        refine sc (sg (sp_call en74 (f74_ok e_18) ⟨od rfl, od rfl, trivial⟩)) ?_
        refine sc (sg (sp_assign (od rfl))) ?_
        refine sn fun a w hS => ?_
        refine exit_then ?_
        refine wp_seq ?_
        obtain ⟨v_19, e_20, h⟩ := bind_some h
        obtain ⟨v_21, e_22, h⟩ := bind_some h
        obtain ⟨v_23, e_24, h⟩ := bind_some h
        obtain ⟨v_25, e_26, h⟩ := bind_some h
        refine st_reg mixed (by kernel_rfl) hS ?_
        refine sc (sg (sp_load ty24 (od rfl))) ?_
        refine sc (sg (sp_move (od rfl))) ?_
        refine sc (sg (sp_call en81 (f81_ok e_20) ⟨od rfl, od rfl, trivial⟩)) ?_
        refine sc (sg (sp_fieldAddr fd24_0 (od rfl))) ?_
        refine sc (sg (sp_load ty3 (od rfl))) ?_
        refine sc (sg (sp_load ty24 (od rfl))) ?_
        refine sc (sg (sp_move (od rfl))) ?_
        refine sc (sg (sp_call en102 (f102_ok e_22) ⟨od rfl, od rfl, trivial⟩)) ?_
        refine sc (sg (sp_call en101 (callOK_tab (f101_ok e_24)) ⟨od rfl, od rfl, trivial⟩)) ?_
        refine sc (sg (sp_move (od rfl))) ?_
        refine sc (sg (sp_indexAddr sl75 (od rfl) (od rfl) e_26)) ?_
        refine sc (sg (sp_load ty27 (od rfl))) ?_
        refine sc (sg (sp_assign (od rfl))) ?_
        refine sc (sg (sp_assign (od rfl))) ?_
        refine sn fun a w hS => ?_
        refine exit_then ?_
        refine wp_seq ?_
        refine st_reg mixed (by kernel_rfl) hS ?_
        refine sc (sg (sp_assign (odi))) ?_
        refine sn fun a w hS => ?_
        refine exit_then ?_
        refine wp_block ?_
        obtain ⟨o_28, e_29, hr_30⟩ := bind_some h
        refine c_loop (fun K a w => ∃ s_27 : Int × (List (List (Vector Int 2))), loopM _ K s_27 = some o_28 ∧ St 79 F0 [Item.sl (α := List (Vector Int 2)) 48 u_7 s_27.2] [(1, isV (α := Int) p1), (2, isA (α := S_api_Market) p0), (7, Pr.is u_7), (9, isV (α := Int) s_11.1), (11, isV (α := Int) v_19), (12, isV (α := List Int) v_25), (13, isV (α := Int) s_27.1)] w0 a w) ?_ ?_ ⟨_, e_29, hS.weak ⟨od rfl, od rfl, od rfl, od rfl, od rfl, od rfl, od rfl, trivial⟩⟩
        · rintro a w ⟨_, hk, _⟩; cases hk
        rintro K a w ⟨s_27, hF_28, hS⟩
        obtain ⟨o, h, hN_28, hL_28⟩ := loop_more hF_28
        refine wp_seq ?_
        refine wp_seq ?_
        refine st_reg mixed (by kernel_rfl) hS ?_
        refine sc (sg (sp_move (od rfl))) ?_
        refine sc (sg (sp_fieldAddr fd24_0 (od rfl))) ?_
        refine sc (sg (sp_load ty3 (od rfl))) ?_
        refine sc (sg (sp_lss (od rfl) (od rfl))) ?_
        refine sn fun a w hS => ?_
        refine exit_then ?_
        refine st_cond hS rfl (fun hb => ?_) (fun hb => ?_)
        · have h := ite_t hb h
          refine wp_skip ?_
          refine exit_then ?_
          refine wp_seq ?_
          refine wp_block ?_
          refine wp_seq ?_
          obtain ⟨v_31, e_32, h⟩ := bind_some h
          refine st_reg mixed (by kernel_rfl) hS ?_
          refine sc (sg (sp_move (od rfl))) ?_
          refine sc (sg (sp_move (od rfl))) ?_
          refine sc (sg (sp_indexAddr sl27 (od rfl) (od rfl) e_32)) ?_
          refine sc (sg (sp_load ty3 (od rfl))) ?_
          refine sc (sg (sp_lss (od rfl) (odi))) ?_
          refine sn fun a w hS => ?_
          refine exit_then ?_
          obtain ⟨y_34, hj_33, h⟩ := bind_some h
          refine wp_mono (Q := fun e a w => e = Exit.normal ∧ St 79 F0 [Item.sl (α := List (Vector Int 2)) 48 u_7 y_34] [(1, isV (α := Int) p1), (2, isA (α := S_api_Market) p0), (7, Pr.is u_7), (9, isV (α := Int) s_11.1), (11, isV (α := Int) v_19), (12, isV (α := List Int) v_25), (13, isV (α := Int) s_27.1)] w0 a w) ?_ ?_
          · refine st_cond hS rfl (fun hb => ?_) (fun hb => ?_)
            · have h := ite_t hb hj_33
              have hS := st_os 0 7 hS rfl rfl
              obtain ⟨v_35, e_36, h⟩ := bind_some h
              obtain ⟨v_37, e_38, h⟩ := bind_some h
              obtain ⟨v_39, e_40, h⟩ := bind_some h
              obtain ⟨v_41, e_42, h⟩ := bind_some h
              obtain ⟨z_43, e_44, h⟩ := bind_some h
              refine st_float mixed [0, 0, 0, 0, 0, 0, 0, 0, 0, 0, 0, 0, 0, 0, 2] (by kernel_rfl) (by kernel_rfl) hS ?_
              refine sfA (sg (sp_move (od rfl))) ?_
              refine sfA (sg (sp_move (od rfl))) ?_
              refine sfA (sg (sp_move (od rfl))) ?_
              refine sfA (sg (sp_move (od rfl))) ?_
              refine sfA (sg (sp_indexAddrOS sl44 (od rfl) (od rfl) e_36)) ?_
              refine sfA (sg (sp_loadEA ty48 (od rfl))) ?_
              refine sfA (sg (sp_move (od rfl))) ?_
              refine sfA (sg (sp_move (od rfl))) ?_
              refine sfA (sg (sp_move (od rfl))) ?_
              refine sfA (sg (sp_indexAddr sl27 (od rfl) (od rfl) e_38)) ?_
              refine sfA (sg (sp_load ty3 (od rfl))) ?_
              refine sfA (sg (bd54 (od rfl) (od rfl))) ?_
              refine sfA (sg (sp_call en103 (f103_ok e_40) ⟨od rfl, od rfl, trivial⟩)) ?_
              refine sfA (sg (sp_indexAddrOS sl44 (od rfl) (od rfl) e_42)) ?_
              refine sfT ?_
              refine sfN fun c a w hS hC => ?_
              refine ls ?_
              refine s_storeEA (k := 0) (j := s_27.1) (Δ := [(1, isV (α := Int) p1), (2, isA (α := S_api_Market) p0), (7, Pr.is u_7), (9, isV (α := Int) s_11.1), (11, isV (α := Int) v_19), (12, isV (α := List Int) v_25), (13, isV (α := Int) s_27.1), (76, isV (α := List (Vector Int 2)) v_39), (77, isEP (List (Vector Int 2)) u_7 s_27.1.toNat)]) ty48 hS rfl ⟨od rfl, od rfl, odOS rfl, od rfl, od rfl, od rfl, od rfl, od rfl, odEP rfl, trivial⟩ ⟨fun _ _ _ _ h => h, fun _ _ _ _ h => h, fun _ _ _ _ h => h, fun _ _ _ _ h => h, fun _ _ _ _ h => h, fun _ _ _ _ h => h, fun _ _ _ _ h => h, fun _ _ _ _ h => h, fun _ _ _ _ h => h, trivial⟩ (odEP rfl) (od rfl) e_44 fun w hS hM => ?_
              have hS : St _ F0 [Item.sl (α := List (Vector Int 2)) 48 u_7 z_43] _ w0 _ _ := hS
              have hC := Mem.le_trans hC hM
              refine s_next hC ?_
              refine s_done ?_
              cases h
              exact ⟨rfl, hS.weak ⟨od rfl, od rfl, od rfl, od rfl, od rfl, od rfl, od rfl, trivial⟩⟩
            · have h := ite_f hb hj_33
              refine wp_skip ?_
              cases h
              exact ⟨rfl, hS.weak ⟨od rfl, od rfl, od rfl, od rfl, od rfl, od rfl, od rfl, trivial⟩⟩
          rintro e a w ⟨rfl, hS⟩
          refine exit_block ?_
          refine exit_then ?_
          refine st_reg mixed (by kernel_rfl) hS ?_
          refine sc (sg (sp_move (od rfl))) ?_
          refine sc (sg (sp_add (od rfl) (odi))) ?_
          refine sc (sg (sp_assign (od rfl))) ?_
          refine sn fun a w hS => ?_
          cases h
          exact ⟨_, hN_28 _ rfl, hS.weak ⟨od rfl, od rfl, od rfl, od rfl, od rfl, od rfl, od rfl, trivial⟩⟩
        · have h := ite_f hb h
          refine wp_exit ?_
          refine exit_thenE ?_
          cases h
          obtain rfl := hL_28 _ rfl
          have h := hr_30
          refine exit_thenE ?_
          refine exit_here ?_
          refine exit_block ?_
          refine exit_then ?_
          refine st_reg mixed (by kernel_rfl) hS ?_
          refine sc (sg (sp_move (od rfl))) ?_
          refine sc (sg (sp_add (od rfl) (odi))) ?_
          refine sc (sg (sp_assign (od rfl))) ?_
          refine sn fun a w hS => ?_
          cases h
          exact ⟨_, hN_12 _ rfl, hS.weak ⟨od rfl, od rfl, od rfl, od rfl, trivial⟩⟩
      · have h := ite_f hb h
        refine wp_exit ?_
        refine exit_thenE ?_
        cases h
        obtain rfl := hL_12 _ rfl
        have h := hr_14
        refine exit_thenE ?_
        refine exit_here ?_
        refine exit_then ?_
        refine wp_seq ?_
        refine st_reg mixed (by kernel_rfl) hS ?_
        refine sc (sg (sp_move (od rfl))) ?_
        refine sc (sg (sp_assign (od rfl))) ?_
        refine sc (sg (sp_assign (odi))) ?_
        refine sn fun a w hS => ?_
        refine exit_then ?_
        refine wp_ret ?_
        have hS0 := hS
        have hS := st_freeze 0 4 hS rfl rfl
        have hS := st_also (t := 4) (q := 7) hS0 hS rfl rfl rfl
        have hS := st_also (t := 4) (q := 78) hS0 hS rfl rfl rfl
        cases h
        exact st_ret hS (run_results2 Try.results52 a w) (⟨_, rfl, hS.get rfl, hS.get rfl, trivial⟩)

theorem f104_ok {p0 : List (List (Vector Int 2))} {p1 : List (List (Vector Int 2))} {p2 : ((List (Vector Int 2)) → (List (Vector Int 2)) → Option Bool)} {r : Bool} (h : M.f104 p0 p1 p2 = some r) : CallOK Try.prog 104 [isV p0, isV p1, isV p2] (isV r) := by
  unfold M.f104 at h
  refine callS_of Try.func104 rfl Try.ntmps104 rfl fun F0 w0 a hS => ?_
  refine wp_seq ?_
  refine st_reg mixed (by kernel_rfl) hS ?_
  refine sc (sg (sp_assign (odb))) ?_
  refine sn fun a w hS => ?_
  refine exit_then ?_
  refine wp_seq ?_
  refine wp_seq ?_
  refine st_reg mixed (by kernel_rfl) hS ?_
  refine sc (sg (sp_move (od rfl))) ?_
  refine sc (sg (sp_len Try.underlying44 (od rfl))) ?_
  refine sc (sg (sp_move (od rfl))) ?_
  refine sc (sg (sp_len Try.underlying44 (od rfl))) ?_
  refine sc (sg (sp_neq (od rfl) (od rfl))) ?_
  refine sn fun a w hS => ?_
  refine exit_then ?_
  refine st_cond hS rfl (fun hb => ?_) (fun hb => ?_)
  · have h := ite_t hb h
    refine wp_seq ?_
    refine st_reg mixed (by kernel_rfl) hS ?_
    refine sc (sg (sp_assign (odb))) ?_
    refine sn fun a w hS => ?_
    refine exit_then ?_
    refine wp_ret ?_
    refine exit_thenR ?_
    cases h
    exact st_ret hS (run_results1 Try.results104 a w) (hS.get rfl)
  · have h := ite_f hb h
    refine wp_skip ?_
    refine exit_then ?_
    refine wp_seq ?_
    refine wp_seq ?_
    refine st_reg mixed (by kernel_rfl) hS ?_
    refine sc (sg (sp_move (od rfl))) ?_
    refine sc (sg (sp_len Try.underlying44 (od rfl))) ?_
    refine sc (sg (sp_move (odi))) ?_
    refine sn fun a w hS => ?_
    refine exit_then ?_
    refine wp_block ?_
    obtain ⟨o_4, e_5, hr_6⟩ := bind_some h
    refine c_loop (fun K a w => ∃ k i_1 s_3, K = k + 1 ∧ ForI _ _ _ o_4 k i_1 s_3 ∧ St 32 F0 [] [(1, isV (α := List (List (Vector Int 2))) p1), (2, isV (α := ((List (Vector Int 2)) → (List (Vector Int 2)) → Option Bool)) p2), (15, isV (α := List (List (Vector Int 2))) p0), (16, isV (α := Int) (p0.length : Int)), (17, isV (α := Int) i_1)] w0 a w) ?_ ?_ ⟨_, _, _, rfl, for_init e_5, hS.weak ⟨od rfl, od rfl, od rfl, od rfl, od rfl, trivial⟩⟩
    · rintro a w ⟨_, _, _, hk, _⟩; cases hk
    rintro K a w ⟨k_4, i_1, s_3, hk, hF_4, hS⟩
    obtain rfl := Nat.succ.inj hk
    refine wp_seq ?_
    refine st_reg mixed (by kernel_rfl) hS ?_
    refine sc (sg (sp_lss (od rfl) (od rfl))) ?_
    refine sn fun a w hS => ?_
    refine exit_then ?_
    refine wp_seq ?_
    refine st_cond hS rfl (fun hb => ?_) (fun hb => ?_)
    · refine wp_skip ?_
      refine exit_then ?_
      obtain ⟨k_4, o, rfl, h, hN_4, hL_4, hw_4⟩ := for_more hF_4 hb
      refine wp_seq ?_
      refine wp_block ?_
      refine wp_seq ?_
      obtain ⟨v_7, e_8, h⟩ := bind_some h
      refine st_reg mixed (by kernel_rfl) hS ?_
      refine sc (sg (sp_move (od rfl))) ?_
      refine sc (sg (sp_indexAddr sl44 (od rfl) (od rfl) e_8)) ?_
      refine sc (sg (sp_load ty48 (od rfl))) ?_
      refine sc (sg (sp_assign (od rfl))) ?_
      refine sc (sg (sp_assign (od rfl))) ?_
      refine sn fun a w hS => ?_
      refine exit_then ?_
      refine wp_seq ?_
      obtain ⟨v_9, e_10, h⟩ := bind_some h
      refine st_reg mixed (by kernel_rfl) hS ?_
      refine sc (sg (sp_move (od rfl))) ?_
      refine sc (sg (sp_move (od rfl))) ?_
      refine sc (sg (sp_indexAddr sl44 (od rfl) (od rfl) e_10)) ?_
      refine sc (sg (sp_load ty48 (od rfl))) ?_
      refine sc (sg (sp_assign (od rfl))) ?_
      refine sn fun a w hS => ?_
      refine exit_then ?_
      refine wp_seq ?_
      obtain ⟨v_11, e_12, h⟩ := bind_some h
      refine st_reg mixed (by kernel_rfl) hS ?_
      refine sc (sg (sp_move (od rfl))) ?_
      refine sc (sg (sp_move (od rfl))) ?_
      refine sc (sg (sp_move (od rfl))) ?_
      refine sc (sg (sp_callV (x := (v_7, v_9)) (y := v_11) (od_fn64 (od rfl)) ⟨od rfl, od rfl, trivial⟩ e_12)) ?_
      refine sc (sg (sp_not (od rfl))) ?_
      refine sn fun a w hS => ?_
      refine exit_then ?_
      refine st_cond hS rfl (fun hb => ?_) (fun hb => ?_)
      · have h := ite_t hb h
        refine wp_seq ?_
        refine st_reg mixed (by kernel_rfl) hS ?_
        refine sc (sg (sp_assign (odb))) ?_
        refine sn fun a w hS => ?_
        refine exit_then ?_
        refine wp_ret ?_
        refine exit_blockR ?_
        refine exit_thenR ?_
        cases h
        obtain rfl := hL_4 _ rfl
        have h := (elim_leave hr_6)
        refine exit_thenR ?_
        refine exit_blockR ?_
        refine exit_thenR ?_
        cases h
        exact st_ret hS (run_results1 Try.results104 a w) (hS.get rfl)
      · have h := ite_f hb h
        refine wp_skip ?_
        refine exit_block ?_
        refine exit_then ?_
        refine st_reg mixed (by kernel_rfl) hS ?_
        refine sc (sg (sp_add (od rfl) (odi))) ?_
        refine sc (sg (sp_move (od rfl))) ?_
        refine sn fun a w hS => ?_
        cases h
        exact ⟨k_4, _, _, rfl, hN_4 _ rfl, hS.weak ⟨od rfl, od rfl, od rfl, od rfl, od (congrArg (fun z => some (isV (α := Int) z)) hw_4), trivial⟩⟩
    · refine wp_exit ?_
      obtain rfl := for_done hF_4 hb
      have h := elim_again hr_6
      refine exit_thenE ?_
      refine exit_thenE ?_
      refine exit_here ?_
      refine exit_then ?_
      refine wp_seq ?_
      refine st_reg mixed (by kernel_rfl) hS ?_
      refine sc (sg (sp_assign (odb))) ?_
      refine sn fun a w hS => ?_
      refine exit_then ?_
      refine wp_ret ?_
      cases h
      exact st_ret hS (run_results1 Try.results104 a w) (hS.get rfl)

theorem f45_ok {p0 : List (Vector Int 2)} {p1 : List (Vector Int 2)} {r : Bool} (h : M.f45 p0 p1 = some r) : CallOK Try.prog 45 [isV p0, isV p1] (isV r) := by
  unfold M.f45 at h
  refine callS_of Try.func45 rfl Try.ntmps45 rfl fun F0 w0 a hS => ?_
  refine wp_seq ?_
  refine st_reg mixed (by kernel_rfl) hS ?_
  refine sc (sg (sp_assign (odb))) ?_
  refine sn fun a w hS => ?_
  refine exit_then ?_
  refine wp_seq ?_
  refine wp_seq ?_
  refine st_reg mixed (by kernel_rfl) hS ?_
  refine sc (sg (sp_move (od rfl))) ?_
  refine sc (sg (sp_len Try.underlying48 (od rfl))) ?_
  refine sc (sg (sp_move (od rfl))) ?_
  refine sc (sg (sp_len Try.underlying48 (od rfl))) ?_
  refine sc (sg (sp_neq (od rfl) (od rfl))) ?_
  refine sn fun a w hS => ?_
  refine exit_then ?_
  refine st_cond hS rfl (fun hb => ?_) (fun hb => ?_)
  · have h := ite_t hb h
    refine wp_seq ?_
    refine st_reg mixed (by kernel_rfl) hS ?_
    refine sc (sg (sp_assign (odb))) ?_
    refine sn fun a w hS => ?_
    refine exit_then ?_
    refine wp_ret ?_
    refine exit_thenR ?_
    cases h
    exact st_ret hS (run_results1 Try.results45 a w) (hS.get rfl)
  · have h := ite_f hb h
    refine wp_skip ?_
    refine exit_then ?_
    refine wp_seq ?_
    refine wp_seq ?_
    refine st_reg mixed (by kernel_rfl) hS ?_
    refine sc (sg (sp_move (od rfl))) ?_
    refine sc (sg (sp_len Try.underlying48 (od rfl))) ?_
    refine sc (sg (sp_move (odi))) ?_
    refine sn fun a w hS => ?_
    refine exit_then ?_
    refine wp_block ?_
    obtain ⟨o_4, e_5, hr_6⟩ := bind_some h
    refine c_loop (fun K a w => ∃ k i_1 s_3, K = k + 1 ∧ ForI _ _ _ o_4 k i_1 s_3 ∧ St 26 F0 [] [(0, isV (α := List (Vector Int 2)) p0), (1, isV (α := List (Vector Int 2)) p1), (12, isV (α := Int) (p0.length : Int)), (13, isV (α := Int) i_1)] w0 a w) ?_ ?_ ⟨_, _, _, rfl, for_init e_5, hS.weak ⟨od rfl, od rfl, od rfl, od rfl, trivial⟩⟩
    · rintro a w ⟨_, _, _, hk, _⟩; cases hk
    rintro K a w ⟨k_4, i_1, s_3, hk, hF_4, hS⟩
    obtain rfl := Nat.succ.inj hk
    refine wp_seq ?_
    refine st_reg mixed (by kernel_rfl) hS ?_
    refine sc (sg (sp_lss (od rfl) (od rfl))) ?_
    refine sn fun a w hS => ?_
    refine exit_then ?_
    refine wp_seq ?_
    refine st_cond hS rfl (fun hb => ?_) (fun hb => ?_)
    · refine wp_skip ?_
      refine exit_then ?_
      obtain ⟨k_4, o, rfl, h, hN_4, hL_4, hw_4⟩ := for_more hF_4 hb
      refine wp_seq ?_
      refine wp_block ?_
      refine wp_seq ?_
      refine st_reg mixed (by kernel_rfl) hS ?_
      refine sc (sg (sp_move (od rfl))) ?_
      refine sc (sg (sp_assign (od rfl))) ?_
      refine sn fun a w hS => ?_
      refine exit_then ?_
      refine wp_seq ?_
      obtain ⟨v_7, e_8, h⟩ := bind_some h
      obtain ⟨v_9, e_10, h⟩ := bind_some h
      refine st_reg mixed (by kernel_rfl) hS ?_
      refine sc (sg (sp_move (od rfl))) ?_
      refine sc (sg (sp_move (od rfl))) ?_
      refine sc (sg (sp_indexAddr sl48 (od rfl) (od rfl) e_8)) ?_
      refine sc (sg (sp_load ty54 (od rfl))) ?_
      refine sc (sg (sp_move (od rfl))) ?_
      refine sc (sg (sp_move (od rfl))) ?_
      refine sc (sg (sp_indexAddr sl48 (od rfl) (od rfl) e_10)) ?_
      refine sc (sg (sp_load ty54 (od rfl))) ?_
      refine sc (sg (sp_neqS eq54 rfl eg54 rfl (od rfl) (od rfl))) ?_
      refine sn fun a w hS => ?_
      refine exit_then ?_
      refine st_cond hS rfl (fun hb => ?_) (fun hb => ?_)
      · have h := ite_t hb h
        refine wp_seq ?_
        refine st_reg mixed (by kernel_rfl) hS ?_
        refine sc (sg (sp_assign (odb))) ?_
        refine sn fun a w hS => ?_
        refine exit_then ?_
        refine wp_ret ?_
        refine exit_blockR ?_
        refine exit_thenR ?_
        cases h
        obtain rfl := hL_4 _ rfl
        have h := (elim_leave hr_6)
        refine exit_thenR ?_
        refine exit_blockR ?_
        refine exit_thenR ?_
        cases h
        exact st_ret hS (run_results1 Try.results45 a w) (hS.get rfl)
      · have h := ite_f hb h
        refine wp_skip ?_
        refine exit_block ?_
        refine exit_then ?_
        refine st_reg mixed (by kernel_rfl) hS ?_
        refine sc (sg (sp_add (od rfl) (odi))) ?_
        refine sc (sg (sp_move (od rfl))) ?_
        refine sn fun a w hS => ?_
        cases h
        exact ⟨k_4, _, _, rfl, hN_4 _ rfl, hS.weak ⟨od rfl, od rfl, od rfl, od (congrArg (fun z => some (isV (α := Int) z)) hw_4), trivial⟩⟩
    · refine wp_exit ?_
      obtain rfl := for_done hF_4 hb
      have h := elim_again hr_6
      refine exit_thenE ?_
      refine exit_thenE ?_
      refine exit_here ?_
      refine exit_then ?_
      refine wp_seq ?_
      refine st_reg mixed (by kernel_rfl) hS ?_
      refine sc (sg (sp_assign (odb))) ?_
      refine sn fun a w hS => ?_
      refine exit_then ?_
      refine wp_ret ?_
      cases h
      exact st_ret hS (run_results1 Try.results45 a w) (hS.get rfl)

theorem f105_ok {p0 : List (Vector Int 2)} {p1 : List (Vector Int 2)} {r : Bool} (h : M.f105 p0 p1 = some r) : CallOK Try.prog 105 [isV p0, isV p1] (isV r) := by
  unfold M.f105 at h
  refine callS_of Try.func105 rfl Try.ntmps105 rfl fun F0 w0 a hS => ?_
  refine wp_seq ?_
  refine st_reg mixed (by kernel_rfl) hS ?_
  refine sc (sg (sp_assign (odb))) ?_
  refine sn fun a w hS => ?_
  refine exit_then ?_
  refine wp_seq ?_
  obtain ⟨v_1, e_2, h⟩ := bind_some h
  refine st_reg mixed (by kernel_rfl) hS ?_
  refine sc (sg (sp_move (od rfl))) ?_
  refine sc (sg (sp_move (od rfl))) ?_
  refine sc (sg (sp_call en45 (f45_ok e_2) ⟨od rfl, od rfl, trivial⟩)) ?_
  refine sc (sg (sp_assign (od rfl))) ?_
  refine sn fun a w hS => ?_
  refine exit_then ?_
  refine wp_ret ?_
  cases h
  exact st_ret hS (run_results1 Try.results105 a w) (hS.get rfl)

theorem f53_ok {p0 : S_api_Market} {p1 : Int} {p2 : List (List (Vector Int 2))} {r : Int} (h : M.f53 p0 p1 p2 = some r) : CallOK Try.prog 53 [isV p0, isV p1, isV p2] (isV r) := by
  unfold M.f53 at h
  refine callS_of Try.func53 rfl Try.ntmps53 rfl fun F0 w0 a hS => ?_
  refine wp_seq ?_
  refine st_reg mixed (by kernel_rfl) hS ?_
  refine sc (sg (sp_box (od rfl))) ?_
  refine sc (sg (sp_assign (odi))) ?_
  refine sn fun a w hS => ?_
  refine exit_then ?_
  refine wp_seq ?_
  refine wp_seq ?_
  obtain ⟨v_1, e_2, h⟩ := bind_some h
  refine st_reg mixed (by kernel_rfl) hS ?_
  refine sc (sg (sp_load ty24 (od rfl))) ?_
  refine sc (sg (sp_move (od rfl))) ?_
  refine sc (sg (sp_buildSlice [.tmp 9] ([p1] : List Int) sl27 ze3 rfl rfl rfl rfl ⟨od rfl, trivial⟩)) ?_
  refine sc (sg (bd106_0 (od rfl))) ?_
  refine sc (sg (sp_call en76 (f76_ok e_2) ⟨od rfl, odnil (α := Int), od rfl, trivial⟩)) ?_
  refine sc (sg (sp_assign (od rfl))) ?_
  refine sn fun a w hS => ?_
  refine exit_then ?_
  refine wp_seq ?_
  refine st_reg mixed (by kernel_rfl) hS ?_
  refine sc (sg (sp_move (od rfl))) ?_
  refine sc (sg (sp_neq (od rfl) (odi))) ?_
  refine sn fun a w hS => ?_
  refine exit_then ?_
  refine st_cond hS rfl (fun hb => ?_) (fun hb => ?_)
  · have h := ite_t hb h
    refine wp_seq ?_
    refine st_reg mixed (by kernel_rfl) hS ?_
    refine sc (sg (sp_move (od rfl))) ?_
    refine sc (sg (sp_assign (od rfl))) ?_
    refine sn fun a w hS => ?_
    refine exit_then ?_
    refine wp_ret ?_
    refine exit_thenR ?_
    cases h
    exact st_ret hS (run_results1 Try.results53 a w) (hS.get rfl)
  · have h := ite_f hb h
    refine wp_skip ?_
    refine exit_then ?_
    refine wp_seq ?_
    refine wp_seq ?_
    obtain ⟨v_3, e_4, h⟩ := bind_some h
    obtain ⟨v_5, e_6, h⟩ := bind_some h
    refine st_reg mixed (by kernel_rfl) hS ?_
    refine sc (sg (sp_move (od rfl))) ?_
    refine sc (sg (sp_load ty24 (od rfl))) ?_
    refine sc (sg (sp_move (od rfl))) ?_
    refine sc (sg (sp_call en93 (f93_ok e_4) ⟨od rfl, od rfl, trivial⟩)) ?_
    refine sc (sg (sp_call en104 (f104_ok e_6) ⟨od rfl, od rfl, of_fn64 (f := (fun x0 x1 => M.f105 x0 x1)) en105 (fun _ _ h => f105_ok h), trivial⟩)) ?_
    refine sc (sg (sp_not (od rfl))) ?_
    refine sn fun a w hS => ?_
    refine exit_then ?_
    refine st_cond hS rfl (fun hb => ?_) (fun hb => ?_)
    · have h := ite_t hb h
      refine wp_seq ?_
      refine st_reg mixed (by kernel_rfl) hS ?_
      refine sc (sg (sp_assign (odi))) ?_
      refine sn fun a w hS => ?_
      refine exit_then ?_
      refine wp_ret ?_
      refine exit_thenR ?_
      cases h
      exact st_ret hS (run_results1 Try.results53 a w) (hS.get rfl)
    · have h := ite_f hb h
      refine wp_skip ?_
      refine exit_then ?_
      refine wp_seq ?_
      refine st_reg mixed (by kernel_rfl) hS ?_
      refine sc (sg (sp_assign (odi))) ?_
      refine sn fun a w hS => ?_
      refine exit_then ?_
      refine wp_ret ?_
      cases h
      exact st_ret hS (run_results1 Try.results53 a w) (hS.get rfl)

theorem f54_ok {fuel : Nat} {p0 : S_api_Market} {p1 : Int} {p2 : List (List (Vector Int 2))} {r : Int} (h : M.f54 fuel p0 p1 p2 = some r) : CallOK Try.prog 54 [isV p0, isV p1, isV p2] (isV r) := by
  unfold M.f54 at h
  refine callS_of Try.func54 rfl Try.ntmps54 rfl fun F0 w0 a hS => ?_
  refine wp_seq ?_
  refine st_reg mixed (by kernel_rfl) hS ?_
  refine sc (sg (sp_box (od rfl))) ?_
  refine sc (sg (sp_assign (odi))) ?_
  refine sn fun a w hS => ?_
  refine exit_then ?_
  refine wp_seq ?_
  obtain ⟨v_1, e_2, h⟩ := bind_some h
  refine st_reg mixed (by kernel_rfl) hS ?_
  refine sc (sg (sp_load ty24 (od rfl))) ?_
  refine sc (sg (sp_move (od rfl))) ?_
  refine sc (sg (sp_call en52 (f52_ok e_2) ⟨od rfl, od rfl, trivial⟩)) ?_
  refine sc (sg (sp_move (od rfl))) ?_
  refine sc (sg (sp_extract (od rfl) rfl)) ?_
  refine sc (sg (sp_extract (od rfl) rfl)) ?_
  refine sc (sg (sp_assign (od rfl))) ?_
  refine sc (sg (sp_assign (od rfl))) ?_
  refine sn fun a w hS => ?_
  refine exit_then ?_
  refine wp_seq ?_
  refine wp_seq ?_
  refine st_reg mixed (by kernel_rfl) hS ?_
  refine sc (sg (sp_move (od rfl))) ?_
  refine sc (sg (sp_neq (od rfl) (odi))) ?_
  refine sn fun a w hS => ?_
  refine exit_then ?_
  refine st_cond hS rfl (fun hb => ?_) (fun hb => ?_)
  · have h := ite_t hb h
    refine wp_seq ?_
    refine st_reg mixed (by kernel_rfl) hS ?_
    refine sc (sg (sp_move (od rfl))) ?_
    refine sc (sg (sp_assign (od rfl))) ?_
    refine sn fun a w hS => ?_
    refine exit_then ?_
    refine wp_ret ?_
    refine exit_thenR ?_
    cases h
    exact st_ret hS (run_results1 Try.results54 a w) (hS.get rfl)
  · have h := ite_f hb h
    refine wp_skip ?_
    refine exit_then ?_
    refine wp_seq ?_
    refine wp_seq ?_
    obtain ⟨v_3, e_4, h⟩ := bind_some h
    refine st_reg mixed (by kernel_rfl) hS ?_
    refine sc (sg (sp_move (od rfl))) ?_
    refine sc (sg (sp_move (od rfl))) ?_
    refine sc (sg (sp_call en36 (f36_ok e_4) ⟨od rfl, od rfl, trivial⟩)) ?_
    refine sc (sg (sp_not (od rfl))) ?_
    refine sn fun a w hS => ?_
    refine exit_then ?_
    refine st_cond hS rfl (fun hb => ?_) (fun hb => ?_)
    · have h := ite_t hb h
      refine wp_seq ?_
      refine st_reg mixed (by kernel_rfl) hS ?_
      refine sc (sg (sp_assign (odi))) ?_
      refine sn fun a w hS => ?_
      refine exit_then ?_
      refine wp_ret ?_
      refine exit_thenR ?_
      cases h
      exact st_ret hS (run_results1 Try.results54 a w) (hS.get rfl)
    · have h := ite_f hb h
      refine wp_skip ?_
      refine exit_then ?_
      refine wp_seq ?_
      refine st_reg mixed (by kernel_rfl) hS ?_
      refine sc (sg (sp_assign (odi))) ?_
      refine sn fun a w hS => ?_
      refine exit_then ?_
      refine wp_ret ?_
      cases h
      exact st_ret hS (run_results1 Try.results54 a w) (hS.get rfl)

theorem f11_ok {fuel : Nat} {p0 : S_api_Market} {p1 : Int} {p2 : List (List (Vector Int 2))} {r : Bool} (h : M.f11 fuel p0 p1 p2 = some r) : CallOK Try.prog 11 [isV p0, isV p1, isV p2] (isV r) := by
  unfold M.f11 at h
  refine callS_of Try.func11 rfl Try.ntmps11 rfl fun F0 w0 a hS => ?_
  refine wp_seq ?_
  refine st_reg mixed (by kernel_rfl) hS ?_
  refine sc (sg (sp_box (od rfl))) ?_
  refine sc (sg (sp_assign (odb))) ?_
  refine sn fun a w hS => ?_
  refine exit_then ?_
  refine wp_seq ?_
  refine wp_seq ?_
  obtain ⟨v_1, e_2, h⟩ := bind_some h
  refine st_reg mixed (by kernel_rfl) hS ?_
  refine sc (sg (sp_call en16 (f16_ok e_2) trivial)) ?_
  refine sc (sg (sp_not (od rfl))) ?_
  refine sn fun a w hS => ?_
  refine exit_then ?_
  refine st_cond hS rfl (fun hb => ?_) (fun hb => ?_)
  · have h := ite_t hb h
    refine wp_seq ?_
    refine st_reg mixed (by kernel_rfl) hS ?_
    refine sc (sg (sp_assign (odb))) ?_
    refine sn fun a w hS => ?_
    refine exit_then ?_
    refine wp_ret ?_
    refine exit_thenR ?_
    cases h
    exact st_ret hS (run_results1 Try.results11 a w) (hS.get rfl)
  · have h := ite_f hb h
    refine wp_skip ?_
    refine exit_then ?_
    refine wp_seq ?_
    refine wp_seq ?_
    obtain ⟨v_3, e_4, h⟩ := bind_some h
    obtain ⟨v_5, e_6, h⟩ := bind_some h
    refine st_reg mixed (by kernel_rfl) hS ?_
    refine sc (sg (sp_load ty24 (od rfl))) ?_
    refine sc (sg (sp_call en17 (f17_ok e_4) ⟨od rfl, trivial⟩)) ?_
    refine sc (sg (sp_not (od rfl))) ?_
    refine sc (sg (sp_move (od rfl))) ?_
    refine sc (sgF rfl fun hG => sp_move (od rfl)) ?_
    refine sc (sgF rfl fun hG => sp_len Try.underlying44 (odw rfl hG)) ?_
    refine sc (sgF rfl fun hG => sp_gtr (odw rfl hG) (odi)) ?_
    refine sc (sg (sp_pickOr (od rfl) fun hg => odw rfl (not_t hg))) ?_
    refine sc (sg (sp_move (od rfl))) ?_
    refine sc (sgF rfl fun hG => sp_move (od rfl)) ?_
    refine sc (sgF rfl fun hG => sp_call en43 (f43_ok (guard_some e_6 hG)) ⟨odw rfl hG, of_fn63 (f := (fun x0 => M.f51 x0)) en51 (fun _ _ h => f51_ok h), trivial⟩) ?_
    refine sc (sg (sp_pickOr (od rfl) fun hg => odw rfl (not_t hg))) ?_
    refine sn fun a w hS => ?_
    refine exit_then ?_
    refine st_cond hS rfl (fun hb => ?_) (fun hb => ?_)
    · have h := ite_t hb h
      refine wp_seq ?_
      refine st_reg mixed (by kernel_rfl) hS ?_
      refine sc (sg (sp_assign (odb))) ?_
      refine sn fun a w hS => ?_
      refine exit_then ?_
      refine wp_ret ?_
      refine exit_thenR ?_
      cases h
      exact st_ret hS (run_results1 Try.results11 a w) (hS.get rfl)
    · have h := ite_f hb h
      refine wp_skip ?_
      refine exit_then ?_
      refine wp_seq ?_
      obtain ⟨v_7, e_8, h⟩ := bind_some h
      refine st_reg mixed (by kernel_rfl) hS ?_
      refine sc (sg (sp_load ty24 (od rfl))) ?_
      refine sc (sg (sp_move (od rfl))) ?_
      refine sc (sg (sp_call en34 (f34_ok e_8) ⟨od rfl, od rfl, trivial⟩)) ?_
      refine sc (sg (sp_move (od rfl))) ?_
      refine sc (sg (sp_extract (od rfl) rfl)) ?_
      refine sc (sg (sp_extract (od rfl) rfl)) ?_
      refine sc (sg (sp_assign (od rfl))) ?_
      refine sc (sg (sp_assign (od rfl))) ?_
      refine sn fun a w hS => ?_
      refine exit_then ?_
      refine wp_seq ?_
      obtain ⟨v_9, e_10, h⟩ := bind_some h
      refine st_reg mixed (by kernel_rfl) hS ?_
      refine sc (sg (sp_load ty24 (od rfl))) ?_
      refine sc (sg (sp_move (od rfl))) ?_
      refine sc (sg (sp_call en52 (f52_ok e_10) ⟨od rfl, od rfl, trivial⟩)) ?_
      refine sc (sg (sp_move (od rfl))) ?_
      refine sc (sg (sp_extract (od rfl) rfl)) ?_
      refine sc (sg (sp_extract (od rfl) rfl)) ?_
      refine sc (sg (sp_assign (od rfl))) ?_
      refine sc (sg (sp_assign (od rfl))) ?_
      refine sn fun a w hS => ?_
      refine exit_then ?_
      refine wp_seq ?_
      obtain ⟨v_11, e_12, h⟩ := bind_some h
      obtain ⟨v_13, e_14, h⟩ := bind_some h
      obtain ⟨v_15, e_16, h⟩ := bind_some h
      obtain ⟨v_17, e_18, h⟩ := bind_some h
      refine st_reg mixed (by kernel_rfl) hS ?_
      refine sc (sg (sp_move (od rfl))) ?_
      refine sc (sg (sp_move (od rfl))) ?_
      refine sc (sg (sp_call en36 (f36_ok e_12) ⟨od rfl, od rfl, trivial⟩)) ?_
      refine sc (sg (sp_move (od rfl))) ?_
      refine sc (sgT rfl fun hG => sp_move (od rfl)) ?_
      refine sc (sgT rfl fun hG => sp_move (od rfl)) ?_
      refine sc (sgT rfl fun hG => sp_eql (odw rfl hG) (odw rfl hG)) ?_
      refine sc (sg (sp_pickAnd (od rfl) fun hg => odw rfl hg)) ?_
      refine sc (sg (sp_move (od rfl))) ?_
      refine sc (sgT rfl fun hG => sp_load ty24 (od rfl)) ?_
      refine sc (sgT rfl fun hG => sp_move (od rfl)) ?_
      refine sc (sgT rfl fun hG => sp_move (od rfl)) ?_
      refine sc (sgT rfl fun hG => sp_call en53 (f53_ok (guard_some e_14 hG)) ⟨odw rfl hG, odw rfl hG, odw rfl hG, trivial⟩) ?_
      refine sc (sgT rfl fun hG => sp_load ty24 (od rfl)) ?_
      refine sc (sgT rfl fun hG => sp_move (od rfl)) ?_
      refine sc (sgT rfl fun hG => sp_move (od rfl)) ?_
      refine sc (sgT rfl fun hG => sp_call en54 (f54_ok (guard_some e_16 hG)) ⟨odw rfl hG, odw rfl hG, odw rfl hG, trivial⟩) ?_
      refine sc (sgT rfl fun hG => sp_eql (odw rfl hG) (odw rfl hG)) ?_
      refine sc (sg (sp_pickAnd (od rfl) fun hg => odw rfl hg)) ?_
      refine sc (sg (sp_move (od rfl))) ?_
      refine sc (sgT rfl fun hG => sp_move (od rfl)) ?_
      refine sc (sgT rfl fun hG => sp_neq (odw rfl hG) (odi)) ?_
      refine sc (sgT rfl fun hG => sp_move (odw rfl hG)) ?_
      refine sc (sgwF rfl fun hG => sp_load ty24 (od rfl)) ?_
      refine sc (sgwF rfl fun hG => sp_move (od rfl)) ?_
      refine sc (sgwF rfl fun hG => sp_move (od rfl)) ?_
      refine sc (sgwF rfl fun hG => sp_call en53 (f53_ok (guard_some e_18 hG)) ⟨odw rfl hG, odw rfl hG, odw rfl hG, trivial⟩) ?_
      refine sc (sgwF rfl fun hG => sp_eql (odw rfl hG) (odi)) ?_
      refine sc (sgT rfl fun hG => sp_pickOr (odw rfl hG) fun hg => odw rfl (and_mk hG (not_t hg))) ?_
      refine sc (sg (sp_pickAnd (od rfl) fun hg => odw rfl hg)) ?_
      refine sc (sg (sp_assign (od rfl))) ?_
      refine sn fun a w hS => ?_
      refine exit_then ?_
      refine wp_ret ?_
      cases h
      exact st_ret hS (run_results1 Try.results11 a w) (hS.get rfl)

end Go.Proofs.Ytkbilbeaedocjaa
