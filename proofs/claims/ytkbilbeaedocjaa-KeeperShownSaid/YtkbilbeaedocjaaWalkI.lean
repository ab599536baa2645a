/-
  What is proved: each Go function named here returns what its model tells, and changes nothing that was there; where the model tells something.
-/
import Derived.Test.YtkbilbeaedocjaaWalkE
import Derived.Test.YtkbilbeaedocjaaModelI
set_option linter.unusedVariables false
set_option maxRecDepth 100000
namespace Go.Proofs.Ytkbilbeaedocjaa
open Go Go.RowKit Go.Proofs.Ytkbilbeaedocjaa.Wh

theorem f62_ok {fuel : Nat} {p0 : S_api_Market} {p1 : List Int} {p2 : Int} {p3 : Int} {p4 : List S_api_Span} {p5 : List S_api_Span} {r : S_api_Span × Bool × Int} (h : M.f62 fuel p0 p1 p2 p3 p4 p5 = some r) : CallOK Try.prog 62 [isV p0, isV p1, isV p2, isV p3, isV p4, isV p5] (isTup [isV r.1, isV r.2.1, isV r.2.2]) := by
  unfold M.f62 at h
  refine callS_of Try.func62 rfl Try.ntmps62 rfl fun F0 w0 a hS => ?_
  refine wp_seq ?_
  refine l_start ?_
  refine s_c hS (sg (sp_box (od rfl))) rfl fun a w hS hM => ?_
  refine s_alloc zi82 hS rfl fun a w b_1 hS hM => ?_
  have hS : St _ F0 [Item.box (α := S_api_Span) 82 b_1 ((0, 0) : S_api_Span)] _ w0 _ _ := hS
  refine s_c hS (sg (sp_assign (odb))) rfl fun a w hS hM => ?_
  refine s_c hS (sg (sp_assign (odi))) rfl fun a w hS hM => ?_
  refine l_end ?_
  refine exit_then ?_
  refine wp_seq ?_
  refine wp_seq ?_
  obtain ⟨v_2, e_3, h⟩ := bind_some h
  refine st_reg mixed (by kernel_rfl) hS ?_
  refine sc (sg (sp_load ty24 (od rfl))) ?_
  refine sc (sg (sp_move (od rfl))) ?_
  refine sc (sg (sp_move (od rfl))) ?_
  refine sc (sg (sp_move (od rfl))) ?_
  refine sc (sg (sp_buildSlice [.tmp 32, .tmp 33] ([p2, p3] : List Int) sl27 ze3 rfl rfl rfl rfl ⟨od rfl, od rfl, trivial⟩)) ?_
  refine sc (sg (sp_call en72 (f72_ok e_3) ⟨od rfl, od rfl, odi, od rfl, trivial⟩)) ?_
  refine sc (sg (sp_assign (od rfl))) ?_
  refine sn fun a w hS => ?_
  refine exit_then ?_
  refine wp_seq ?_
  refine st_reg mixed (by kernel_rfl) hS ?_
  refine sc (sg (sp_move (od rfl))) ?_
  refine sc (sg (sp_neq (od rfl) (odi))) ?_
  refine sn fun a w hS => ?_
  refine exit_then ?_
  refine st_cond hS rfl (fun hb => ?_) (fun hb => ?_)
  · have h := ite_t hb h
    refine wp_seq ?_
    refine l_start ?_
    refine s_c hS (sg (bd82_ )) rfl fun a w hS hM => ?_
    refine s_c hS (sg (sp_move (od rfl))) rfl fun a w hS hM => ?_
    refine s_storeB (k := 0) (Δ := [(12, Pr.ptr b_1), (38, isV (α := S_api_Span) ((0, 0) : S_api_Span)), (39, isV (α := Int) v_2)]) ty82 hS rfl ⟨od rfl, od rfl, od rfl, trivial⟩ ⟨fun _ _ _ _ h => h, fun _ _ _ _ h => h, fun _ _ _ _ h => h, trivial⟩ rfl (od rfl) fun w hS hM => ?_
    have hS : St _ F0 [Item.box (α := S_api_Span) 82 b_1 ((0, 0) : S_api_Span)] _ w0 _ _ := hS
    refine s_c hS (sg (sp_assign (odb))) rfl fun a w hS hM => ?_
    refine s_c hS (sg (sp_assign (od rfl))) rfl fun a w hS hM => ?_
    refine l_end ?_
    refine exit_then ?_
    refine wp_ret ?_
    refine exit_thenR ?_
    have hS := st_freezeB 0 12 hS rfl rfl
    cases h
    obtain ⟨v, hr, hv⟩ := run_resC3 Try.results62 ty82 (hS.get rfl)
    exact st_ret hS hr ⟨_, rfl, hv, hS.get rfl, hS.get rfl, trivial⟩
  · have h := ite_f hb h
    refine wp_skip ?_
    refine exit_then ?_
    refine wp_seq ?_
    obtain ⟨v_4, e_5, h⟩ := bind_some h
    refine st_reg mixed (by kernel_rfl) hS ?_
    refine sc (sg (sp_load ty24 (od rfl))) ?_
    refine sc (sg (sp_move (od rfl))) ?_
    refine sc (sg (sp_call en102 (f102_ok e_5) ⟨od rfl, od rfl, trivial⟩)) ?_
    refine sc (sg (sp_assign (od rfl))) ?_
    refine sn fun a w hS => ?_
    refine exit_then ?_
    refine wp_seq ?_
    refine wp_seq ?_
    refine st_reg mixed (by kernel_rfl) hS ?_
    refine sc (sg (sp_move (od rfl))) ?_
    refine sc (sg (sp_len Try.underlying80 (od rfl))) ?_
    refine sc (sg (sp_fieldAddr fd24_1 (od rfl))) ?_
    refine sc (sg (sp_load ty22 (od rfl))) ?_
    refine sc (sg (sp_len Try.underlying22 (od rfl))) ?_
    refine sc (sg (sp_neq (od rfl) (od rfl))) ?_
    refine sc (sg (sp_move (od rfl))) ?_
    refine sc (sgF rfl fun hG => sp_move (od rfl)) ?_
    refine sc (sgF rfl fun hG => sp_len Try.underlying80 (odw rfl hG)) ?_
    refine sc (sgF rfl fun hG => sp_move (od rfl)) ?_
    refine sc (sgF rfl fun hG => sp_len Try.underlying27 (odw rfl hG)) ?_
    refine sc (sgF rfl fun hG => sp_neq (odw rfl hG) (odw rfl hG)) ?_
    refine sc (sg (sp_pickOr (od rfl) fun hg => odw rfl (not_t hg))) ?_
    refine sn fun a w hS => ?_
    refine exit_then ?_
    refine st_cond hS rfl (fun hb => ?_) (fun hb => ?_)
    · have h := ite_t hb h
      refine wp_seq ?_
      refine l_start ?_
      refine s_c hS (sg (bd82_ )) rfl fun a w hS hM => ?_
      refine s_storeB (k := 0) (Δ := [(12, Pr.ptr b_1), (56, isV (α := S_api_Span) ((0, 0) : S_api_Span))]) ty82 hS rfl ⟨od rfl, od rfl, trivial⟩ ⟨fun _ _ _ _ h => h, fun _ _ _ _ h => h, trivial⟩ rfl (od rfl) fun w hS hM => ?_
      have hS : St _ F0 [Item.box (α := S_api_Span) 82 b_1 ((0, 0) : S_api_Span)] _ w0 _ _ := hS
      refine s_c hS (sg (sp_assign (odb))) rfl fun a w hS hM => ?_
      refine s_c hS (sg (sp_assign (odi))) rfl fun a w hS hM => ?_
      refine l_end ?_
      refine exit_then ?_
      refine wp_ret ?_
      refine exit_thenR ?_
      have hS := st_freezeB 0 12 hS rfl rfl
      cases h
      obtain ⟨v, hr, hv⟩ := run_resC3 Try.results62 ty82 (hS.get rfl)
      exact st_ret hS hr ⟨_, rfl, hv, hS.get rfl, hS.get rfl, trivial⟩
    · have h := ite_f hb h
      refine wp_skip ?_
      refine exit_then ?_
      refine wp_seq ?_
      refine st_reg mixed (by kernel_rfl) hS ?_
      refine sc (sg (sp_assign (φ := Pr.is (.slice none 0 0)) (odc fun _ => rfl))) ?_
      refine sn fun a w hS => ?_
      have hS := st_nil (α := S_api_Span) 82 hS
      have hS : St _ F0 [Item.box (α := S_api_Span) 82 b_1 ((0, 0) : S_api_Span), Item.sl (α := S_api_Span) 82 (.slice none 0 0) ([] : List S_api_Span)] _ w0 _ _ := hS
      refine exit_then ?_
      refine wp_seq ?_
      obtain ⟨z_6, e_7, h⟩ := bind_some h
      refine l_start ?_
      refine s_c hS (sg (sp_move (od rfl))) rfl fun a w hS hM => ?_
      refine s_c hS (sg (sp_move (od rfl))) rfl fun a w hS hM => ?_
      refine s_append (k := 1) (Δ := [(2, isV (α := Int) p2), (3, isV (α := Int) p3), (5, isV (α := List S_api_Span) p5), (6, isA (α := S_api_Market) p0), (12, Pr.ptr b_1), (16, isV (α := List S_api_Offer) v_4), (57, Pr.is (.slice none 0 0)), (58, isV (α := List S_api_Span) p4)]) sl80 ze82 hS rfl ⟨od rfl, od rfl, od rfl, od rfl, od rfl, od rfl, od rfl, od rfl, trivial⟩ ⟨fun _ _ _ _ h => h, fun _ _ _ _ h => h, fun _ _ _ _ h => h, fun _ _ _ _ h => h, fun _ _ _ _ h => h, fun _ _ _ _ h => h, fun _ _ _ _ h => h, fun _ _ _ _ h => h, trivial⟩ (od rfl) (od rfl) e_7 rfl fun a w u_8 hS hM => ?_
      have hS : St _ F0 [Item.box (α := S_api_Span) 82 b_1 ((0, 0) : S_api_Span), Item.sl (α := S_api_Span) 82 u_8 z_6] _ w0 _ _ := hS
      refine s_c hS (sg (sp_assign (od rfl))) rfl fun a w hS hM => ?_
      refine l_end ?_
      refine exit_then ?_
      refine wp_seq ?_
      obtain ⟨z_9, e_10, h⟩ := bind_some h
      refine l_start ?_
      refine s_c hS (sg (sp_move (od rfl))) rfl fun a w hS hM => ?_
      refine s_c hS (sg (sp_move (od rfl))) rfl fun a w hS hM => ?_
      refine s_append (k := 1) (Δ := [(2, isV (α := Int) p2), (3, isV (α := Int) p3), (6, isA (α := S_api_Market) p0), (12, Pr.ptr b_1), (16, isV (α := List S_api_Offer) v_4), (60, Pr.is u_8), (61, isV (α := List S_api_Span) p5)]) sl80 ze82 hS rfl ⟨od rfl, od rfl, od rfl, od rfl, od rfl, od rfl, od rfl, trivial⟩ ⟨fun _ _ _ _ h => h, fun _ _ _ _ h => h, fun _ _ _ _ h => h, fun _ _ _ _ h => h, fun _ _ _ _ h => h, fun _ _ _ _ h => h, fun _ _ _ _ h => h, trivial⟩ (od rfl) (od rfl) e_10 rfl fun a w u_11 hS hM => ?_
      have hS : St _ F0 [Item.box (α := S_api_Span) 82 b_1 ((0, 0) : S_api_Span), Item.sl (α := S_api_Span) 82 u_11 z_9] _ w0 _ _ := hS
      refine s_c hS (sg (sp_assign (od rfl))) rfl fun a w hS hM => ?_
      refine l_end ?_
      refine exit_then ?_
      refine wp_seq ?_
      refine wp_seq ?_
      refine st_reg mixed (by kernel_rfl) hS ?_
      refine sc (sg (sp_assign (odi))) ?_
      refine sn fun a w hS => ?_
      refine exit_then ?_
      refine wp_block ?_
      obtain ⟨o_13, e_14, hr_15⟩ := bind_some h
      refine c_loop (fun K a w => ∃ s_12 : Int, loopM _ K s_12 = some o_13 ∧ St 281 F0 [Item.box (α := S_api_Span) 82 b_1 ((0, 0) : S_api_Span), Item.sl (α := S_api_Span) 82 u_11 z_9] [(2, isV (α := Int) p2), (3, isV (α := Int) p3), (6, isA (α := S_api_Market) p0), (12, Pr.ptr b_1), (16, isV (α := List S_api_Offer) v_4), (17, Pr.is u_11), (18, isV (α := Int) s_12)] w0 a w) ?_ ?_ ⟨_, e_14, hS.weak ⟨od rfl, od rfl, od rfl, od rfl, od rfl, od rfl, od rfl, trivial⟩⟩
      · rintro a w ⟨_, hk, _⟩; cases hk
      rintro K a w ⟨s_12, hF_13, hS⟩
      obtain ⟨o, h, hN_13, hL_13⟩ := loop_more hF_13
      refine wp_seq ?_
      refine wp_seq ?_
      refine st_reg mixed (by kernel_rfl) hS ?_
      refine sc (sg (sp_move (od rfl))) ?_
      refine sc (sg (sp_move (od rfl))) ?_
      refine sc (sg (sp_len Try.underlying22 (od rfl))) ?_
      refine sc (sg (sp_lss (od rfl) (od rfl))) ?_
      refine sn fun a w hS => ?_
      refine exit_then ?_
      refine st_cond hS rfl (fun hb => ?_) (fun hb => ?_)
      · have h := ite_t hb h
        refine wp_skip ?_
        refine exit_then ?_
        refine wp_seq ?_
        refine wp_block ?_
        refine wp_seq ?_
        have hS := st_os 1 17 hS rfl rfl
        obtain ⟨v_16, e_17, h⟩ := bind_some h
        obtain ⟨v_18, e_19, h⟩ := bind_some h
        obtain ⟨v_20, e_21, h⟩ := bind_some h
        obtain ⟨v_22, e_23, h⟩ := bind_some h
        obtain ⟨v_24, e_25, h⟩ := bind_some h
        refine st_reg mixed (by kernel_rfl) hS ?_
        refine sc (sg (sp_move (od rfl))) ?_
        refine sc (sg (sp_move (od rfl))) ?_
        refine sc (sg (sp_indexAddrOS sl80 (od rfl) (od rfl) e_17)) ?_
        refine sc (sg (sp_fieldAddrB fd82_0 ((odEAB (od rfl))))) ?_
        refine sc (sg (sp_loadB ty3 (od rfl))) ?_
        refine sc (sg (sp_call en80 (f80_ok e_19) ⟨od rfl, odi, odi, trivial⟩)) ?_
        refine sc (sg (sp_not (od rfl))) ?_
        refine sc (sg (sp_move (od rfl))) ?_
        refine sc (sgF rfl fun hG => sp_move (od rfl)) ?_
        refine sc (sgF rfl fun hG => sp_move (od rfl)) ?_
        refine sc (sgF rfl fun hG => sp_indexAddrOS sl80 (odw rfl hG) (odw rfl hG) (guard_some e_21 hG)) ?_
        refine sc (sgF rfl fun hG => sp_fieldAddrB fd82_1 ((odEAB (odw rfl hG)))) ?_
        refine sc (sgF rfl fun hG => sp_loadB ty3 (odw rfl hG)) ?_
        refine sc (sgF rfl fun hG => sp_move (od rfl)) ?_
        refine sc (sgF rfl fun hG => sp_move (od rfl)) ?_
        refine sc (sgF rfl fun hG => sp_indexAddrOS sl80 (odw rfl hG) (odw rfl hG) (guard_some e_23 hG)) ?_
        refine sc (sgF rfl fun hG => sp_fieldAddrB fd82_0 ((odEAB (odw rfl hG)))) ?_
        refine sc (sgF rfl fun hG => sp_loadB ty3 (odw rfl hG)) ?_
        refine sc (sgF rfl fun hG => sp_move (od rfl)) ?_
        refine sc (sgF rfl fun hG => sp_move (od rfl)) ?_
        refine sc (sgF rfl fun hG => sp_indexAddr sl22 (odw rfl hG) (odw rfl hG) (guard_some e_25 hG)) ?_
        refine sc (sgF rfl fun hG => sp_fieldAddr fd59_3 (odw rfl hG)) ?_
        refine sc (sgF rfl fun hG => sp_load ty3 (odw rfl hG)) ?_
        refine sc (sgF rfl fun hG => sp_add (odw rfl hG) (odw rfl hG)) ?_
        refine sc (sgF rfl fun hG => sp_neq (odw rfl hG) (odw rfl hG)) ?_
        refine sc (sg (sp_pickOr (od rfl) fun hg => odw rfl (not_t hg))) ?_
        refine sn fun a w hS => ?_
        refine exit_then ?_
        refine st_cond hS rfl (fun hb => ?_) (fun hb => ?_)
        · have h := ite_t hb h
          refine wp_seq ?_
          have hS := st_drop 1 hS
          refine l_start ?_
          refine s_c hS (sg (bd82_ )) rfl fun a w hS hM => ?_
          refine s_storeB (k := 0) (Δ := [(12, Pr.ptr b_1), (95, isV (α := S_api_Span) ((0, 0) : S_api_Span))]) ty82 hS rfl ⟨od rfl, od rfl, trivial⟩ ⟨fun _ _ _ _ h => h, fun _ _ _ _ h => h, trivial⟩ rfl (od rfl) fun w hS hM => ?_
          have hS : St _ F0 [Item.box (α := S_api_Span) 82 b_1 ((0, 0) : S_api_Span)] _ w0 _ _ := hS
          refine s_c hS (sg (sp_assign (odb))) rfl fun a w hS hM => ?_
          refine s_c hS (sg (sp_assign (odi))) rfl fun a w hS hM => ?_
          refine l_end ?_
          refine exit_then ?_
          refine wp_ret ?_
          refine exit_blockR ?_
          refine exit_thenR ?_
          have hS := st_freezeB 0 12 hS rfl rfl
          cases h
          obtain rfl := hL_13 _ rfl
          have h := (sum_inr hr_15)
          refine exit_thenR ?_
          refine exit_blockR ?_
          refine exit_thenR ?_
          cases h
          obtain ⟨v, hr, hv⟩ := run_resC3 Try.results62 ty82 (hS.get rfl)
          exact st_ret hS hr ⟨_, rfl, hv, hS.get rfl, hS.get rfl, trivial⟩
        · have h := ite_f hb h
          refine wp_skip ?_
          refine exit_block ?_
          refine exit_then ?_
          refine st_reg mixed (by kernel_rfl) hS ?_
          refine sc (sg (sp_move (od rfl))) ?_
          refine sc (sg (sp_add (od rfl) (odi))) ?_
          refine sc (sg (sp_assign (od rfl))) ?_
          refine sn fun a w hS => ?_
          cases h
          exact ⟨_, hN_13 _ rfl, hS.weak ⟨od rfl, od rfl, od rfl, od rfl, od rfl, odOS rfl, od rfl, trivial⟩⟩
      · have h := ite_f hb h
        refine wp_exit ?_
        refine exit_thenE ?_
        cases h
        obtain rfl := hL_13 _ rfl
        have h := (sum_inl hr_15)
        refine exit_thenE ?_
        refine exit_here ?_
        refine exit_then ?_
        refine wp_seq ?_
        refine st_reg mixed (by kernel_rfl) hS ?_
        refine sc (sg (sp_assign (φ := Pr.is (.slice none 0 0)) (odc fun _ => rfl))) ?_
        refine sn fun a w hS => ?_
        have hS := st_nilT (α := Int) 27 3 hS
        have hS : St _ F0 [Item.box (α := S_api_Span) 82 b_1 ((0, 0) : S_api_Span), Item.sl (α := S_api_Span) 82 u_11 z_9, Item.tab (α := Int) 27 3 (.slice none 0 0) (ob (.slice none 0 0)) [] ([] : List (List Int))] _ w0 _ _ := hS
        refine exit_then ?_
        refine wp_seq ?_
        refine wp_seq ?_
        refine st_reg mixed (by kernel_rfl) hS ?_
        refine sc (sg (sp_assign (odi))) ?_
        refine sn fun a w hS => ?_
        refine exit_then ?_
        refine wp_block ?_
        obtain ⟨o_27, e_28, hr_29⟩ := bind_some h
        refine c_loop (fun K a w => ∃ s_26 : Int × (List (List Int)), ∃ u_30 : Value, ∃ o_31 : Nat → Bool, ∃ rs_32 : List Value, loopM _ K s_26 = some o_27 ∧ St 281 F0 [Item.box (α := S_api_Span) 82 b_1 ((0, 0) : S_api_Span), Item.sl (α := S_api_Span) 82 u_11 z_9, Item.tab (α := Int) 27 3 u_30 o_31 rs_32 s_26.2] [(2, isV (α := Int) p2), (3, isV (α := Int) p3), (6, isA (α := S_api_Market) p0), (12, Pr.ptr b_1), (16, isV (α := List S_api_Offer) v_4), (17, Pr.is u_11), (19, Pr.is u_30), (20, isV (α := Int) s_26.1)] w0 a w) ?_ ?_ ⟨_, (.slice none 0 0), (ob (.slice none 0 0)), [], e_28, hS.weak ⟨od rfl, od rfl, od rfl, od rfl, od rfl, od rfl, od rfl, od rfl, trivial⟩⟩
        · rintro a w ⟨_, _, _, _, hk, _⟩; cases hk
        rintro K a w ⟨s_26, u_30, o_31, rs_32, hF_27, hS⟩
        obtain ⟨o, h, hN_27, hL_27⟩ := loop_more hF_27
        refine wp_seq ?_
        refine wp_seq ?_
        refine st_reg mixed (by kernel_rfl) hS ?_
        refine sc (sg (sp_move (od rfl))) ?_
        refine sc (sg (sp_fieldAddr fd24_0 (od rfl))) ?_
        refine sc (sg (sp_load ty3 (od rfl))) ?_
        refine sc (sg (sp_lss (od rfl) (od rfl))) ?_
        refine sn fun a w hS => ?_
        refine exit_then ?_
        refine st_cond hS rfl (fun hb => ?_) (fun hb => ?_)
        · have h := ite_t hb h
          refine wp_skip ?_
          refine exit_then ?_
          refine wp_seq ?_
          refine wp_block ?_
          refine wp_seq ?_
          refine st_reg mixed (by kernel_rfl) hS ?_
          refine sc (sg (sp_assign (φ := Pr.is (.slice none 0 0)) (odc fun _ => rfl))) ?_
          refine sn fun a w hS => ?_
          have hS := st_nil (α := Int) 3 hS
          have hS : St _ F0 [Item.box (α := S_api_Span) 82 b_1 ((0, 0) : S_api_Span), Item.sl (α := S_api_Span) 82 u_11 z_9, Item.tab (α := Int) 27 3 u_30 o_31 rs_32 s_26.2, Item.sl (α := Int) 3 (.slice none 0 0) ([] : List Int)] _ w0 _ _ := hS
          refine exit_then ?_
          refine wp_seq ?_
          refine wp_seq ?_
          refine st_reg mixed (by kernel_rfl) hS ?_
          refine sc (sg (sp_assign (odi))) ?_
          refine sn fun a w hS => ?_
          refine exit_then ?_
          refine wp_block ?_
          obtain ⟨o_34, e_35, hr_36⟩ := bind_some h
          refine c_loop (fun K a w => ∃ s_33 : Int × (List Int), ∃ u_37 : Value, loopM _ K s_33 = some o_34 ∧ St 281 F0 [Item.box (α := S_api_Span) 82 b_1 ((0, 0) : S_api_Span), Item.sl (α := S_api_Span) 82 u_11 z_9, Item.tab (α := Int) 27 3 u_30 o_31 rs_32 s_26.2, Item.sl (α := Int) 3 u_37 s_33.2] [(2, isV (α := Int) p2), (3, isV (α := Int) p3), (6, isA (α := S_api_Market) p0), (12, Pr.ptr b_1), (16, isV (α := List S_api_Offer) v_4), (17, Pr.is u_11), (19, Pr.is u_30), (20, isV (α := Int) s_26.1), (21, Pr.is u_37), (22, isV (α := Int) s_33.1)] w0 a w) ?_ ?_ ⟨_, (.slice none 0 0), e_35, hS.weak ⟨od rfl, od rfl, od rfl, od rfl, od rfl, od rfl, od rfl, od rfl, od rfl, od rfl, trivial⟩⟩
          · rintro a w ⟨_, _, hk, _⟩; cases hk
          rintro K a w ⟨s_33, u_37, hF_34, hS⟩
          obtain ⟨o, h, hN_34, hL_34⟩ := loop_more hF_34
          refine wp_seq ?_
          refine wp_seq ?_
          refine st_reg mixed (by kernel_rfl) hS ?_
          refine sc (sg (sp_move (od rfl))) ?_
          refine sc (sg (sp_fieldAddr fd24_0 (od rfl))) ?_
          refine sc (sg (sp_load ty3 (od rfl))) ?_
          refine sc (sg (sp_lss (od rfl) (od rfl))) ?_
          refine sn fun a w hS => ?_
          refine exit_then ?_
          refine st_cond hS rfl (fun hb => ?_) (fun hb => ?_)
          · have h := ite_t hb h
            refine wp_skip ?_
            refine exit_then ?_
            refine wp_seq ?_
            refine wp_block ?_
            obtain ⟨z_38, e_39, h⟩ := bind_some h
            refine l_start ?_
            refine s_c hS (sg (sp_move (od rfl))) rfl fun a w hS hM => ?_
            refine s_c hS (sg (sp_buildSlice [.const (.int .i64 (1099511627776))] ([1099511627776] : List Int) sl27 ze3 rfl rfl rfl rfl ⟨odi, trivial⟩)) rfl fun a w hS hM => ?_
            refine s_append (k := 3) (Δ := [(2, isV (α := Int) p2), (3, isV (α := Int) p3), (6, isA (α := S_api_Market) p0), (12, Pr.ptr b_1), (16, isV (α := List S_api_Offer) v_4), (17, Pr.is u_11), (19, Pr.is u_30), (20, isV (α := Int) s_26.1), (22, isV (α := Int) s_33.1), (108, Pr.is u_37), (109, isV (α := List Int) ([1099511627776] : List Int))]) sl27 ze3 hS rfl ⟨od rfl, od rfl, od rfl, od rfl, od rfl, od rfl, od rfl, od rfl, od rfl, od rfl, od rfl, trivial⟩ ⟨fun _ _ _ _ h => h, fun _ _ _ _ h => h, fun _ _ _ _ h => h, fun _ _ _ _ h => h, fun _ _ _ _ h => h, fun _ _ _ _ h => h, fun _ _ _ _ h => h, fun _ _ _ _ h => h, fun _ _ _ _ h => h, fun _ _ _ _ h => h, fun _ _ _ _ h => h, trivial⟩ (od rfl) (od rfl) e_39 rfl fun a w u_40 hS hM => ?_
            have hS : St _ F0 [Item.box (α := S_api_Span) 82 b_1 ((0, 0) : S_api_Span), Item.sl (α := S_api_Span) 82 u_11 z_9, Item.tab (α := Int) 27 3 u_30 o_31 rs_32 s_26.2, Item.sl (α := Int) 3 u_40 z_38] _ w0 _ _ := hS
            refine s_c hS (sg (sp_assign (od rfl))) rfl fun a w hS hM => ?_
            refine l_end ?_
            refine exit_block ?_
            refine exit_then ?_
            refine st_reg mixed (by kernel_rfl) hS ?_
            refine sc (sg (sp_move (od rfl))) ?_
            refine sc (sg (sp_add (od rfl) (odi))) ?_
            refine sc (sg (sp_assign (od rfl))) ?_
            refine sn fun a w hS => ?_
            cases h
            exact ⟨_, u_40, hN_34 _ rfl, hS.weak ⟨od rfl, od rfl, od rfl, od rfl, od rfl, od rfl, od rfl, od rfl, od rfl, od rfl, trivial⟩⟩
          · have h := ite_f hb h
            refine wp_exit ?_
            refine exit_thenE ?_
            cases h
            obtain rfl := hL_34 _ rfl
            have h := hr_36
            refine exit_thenE ?_
            refine exit_here ?_
            refine exit_then ?_
            refine wp_seq ?_
            obtain ⟨z_41, e_42, h⟩ := bind_some h
            refine l_start ?_
            refine s_c hS (sg (sp_move (od rfl))) rfl fun a w hS hM => ?_
            refine s_c hS (sg (sp_move (od rfl))) rfl fun a w hS hM => ?_
            refine s_c hS (sg (sp_buildSlice [.tmp 112] [Raw.mk u_37] slR75 zeR27 rfl rfl rfl rfl ⟨odRaw (od rfl) (hS.one (k := 3) rfl), trivial⟩)) rfl fun a w hS hM => ?_
            refine s_appendT (k := 2) (k2 := 3) (Δ := (113, isV [Raw.mk u_37]) :: [(2, isV (α := Int) p2), (3, isV (α := Int) p3), (6, isA (α := S_api_Market) p0), (12, Pr.ptr b_1), (16, isV (α := List S_api_Offer) v_4), (17, Pr.is u_11), (20, isV (α := Int) s_26.1), (111, Pr.is u_30)]) slR75 zeR27 hS rfl rfl rfl ⟨od rfl, od rfl, od rfl, od rfl, od rfl, od rfl, od rfl, od rfl, od rfl, trivial⟩ ⟨fun _ _ _ _ h => h, fun _ _ _ _ h => h, fun _ _ _ _ h => h, fun _ _ _ _ h => h, fun _ _ _ _ h => h, fun _ _ _ _ h => h, fun _ _ _ _ h => h, fun _ _ _ _ h => h, fun _ _ _ _ h => h, trivial⟩ (od rfl) (od rfl) e_42 rfl fun a w u_43 o_44 hS hM => ?_
            have hS : St _ F0 [Item.box (α := S_api_Span) 82 b_1 ((0, 0) : S_api_Span), Item.sl (α := S_api_Span) 82 u_11 z_9, Item.tab (α := Int) 27 3 u_43 o_44 (rs_32 ++ [u_37]) z_41] _ w0 _ _ := hS
            refine s_c hS (sg (sp_assign (od rfl))) rfl fun a w hS hM => ?_
            refine l_end ?_
            refine exit_then ?_
            obtain ⟨v_45, e_46, h⟩ := bind_some h
            obtain ⟨v_47, e_48, h⟩ := bind_some h
            obtain ⟨z_49, e_50, h⟩ := bind_some h
            refine l_start ?_
            refine s_c hS (sg (sp_move (od rfl))) rfl fun a w hS hM => ?_
            refine s_c hS (sg (sp_move (od rfl))) rfl fun a w hS hM => ?_
            have hS := st_tab 2 114 hS rfl rfl
            have hS := st_tab 2 19 hS rfl rfl
            have hS := st_tab 2 115 hS rfl rfl
            refine s_c hS (sg (sp_indexAddrT Try.underlying75 sz27 (od rfl) (od rfl) e_46)) rfl fun a w hS hM => ?_
            refine s_c hS (sg (sp_loadTR Try.underlying27 (od rfl))) rfl fun a w hS hM => ?_
            refine s_c hS (sg (sp_move (od rfl))) rfl fun a w hS hM => ?_
            refine s_c hS (sg (sp_indexAddrTA sl27 (od rfl) (od rfl) e_48)) rfl fun a w hS hM => ?_
            refine s_storeTA (k := 2) (i := s_26.1) (j := s_26.1) (Δ := [(2, isV (α := Int) p2), (3, isV (α := Int) p3), (6, isA (α := S_api_Market) p0), (12, Pr.ptr b_1), (16, isV (α := List S_api_Offer) v_4), (17, Pr.is u_11), (19, Pr.is u_43), (20, isV (α := Int) s_26.1), (120, isHA Int (rs_32 ++ [u_37]) s_26.1.toNat s_26.1.toNat)]) ty3 hS rfl ⟨od rfl, od rfl, od rfl, od rfl, od rfl, od rfl, odTab rfl, od rfl, odHA rfl, trivial⟩ ⟨fun _ _ _ _ h => h, fun _ _ _ _ h => h, fun _ _ _ _ h => h, fun _ _ _ _ h => h, fun _ _ _ _ h => h, fun _ _ _ _ h => h, fun _ _ _ _ h => h, fun _ _ _ _ h => h, fun _ _ _ _ h => h, trivial⟩ (odHA rfl) (odi) e_50 fun w hS hM => ?_
            have hS : St _ F0 [Item.box (α := S_api_Span) 82 b_1 ((0, 0) : S_api_Span), Item.sl (α := S_api_Span) 82 u_11 z_9, Item.tab (α := Int) 27 3 u_43 o_44 (rs_32 ++ [u_37]) z_49] _ w0 _ _ := hS
            refine l_end ?_
            refine exit_block ?_
            refine exit_then ?_
            refine st_reg mixed (by kernel_rfl) hS ?_
            refine sc (sg (sp_move (od rfl))) ?_
            refine sc (sg (sp_add (od rfl) (odi))) ?_
            refine sc (sg (sp_assign (od rfl))) ?_
            refine sn fun a w hS => ?_
            cases h
            exact ⟨_, u_43, o_44, (rs_32 ++ [u_37]), hN_27 _ rfl, hS.weak ⟨od rfl, od rfl, od rfl, od rfl, od rfl, od rfl, od rfl, od rfl, trivial⟩⟩
        · have h := ite_f hb h
          refine wp_exit ?_
          refine exit_thenE ?_
          cases h
          obtain rfl := hL_27 _ rfl
          have h := hr_29
          refine exit_thenE ?_
          refine exit_here ?_
          refine exit_then ?_
          refine wp_seq ?_
          refine wp_seq ?_
          refine st_reg mixed (by kernel_rfl) hS ?_
          refine sc (sg (sp_assign (odi))) ?_
          refine sn fun a w hS => ?_
          refine exit_then ?_
          refine wp_block ?_
          obtain ⟨o_63, e_64, hr_65⟩ := bind_some h
          refine c_loop (fun K a w => ∃ s_62 : Int × (List (List Int)), loopM _ K s_62 = some o_63 ∧ St 281 F0 [Item.box (α := S_api_Span) 82 b_1 ((0, 0) : S_api_Span), Item.sl (α := S_api_Span) 82 u_11 z_9, Item.tab (α := Int) 27 3 u_30 o_31 rs_32 s_62.2] [(2, isV (α := Int) p2), (3, isV (α := Int) p3), (6, isA (α := S_api_Market) p0), (12, Pr.ptr b_1), (16, isV (α := List S_api_Offer) v_4), (17, Pr.is u_11), (19, Pr.is u_30), (23, isV (α := Int) s_62.1)] w0 a w) ?_ ?_ ⟨_, e_64, hS.weak ⟨od rfl, od rfl, od rfl, od rfl, od rfl, od rfl, od rfl, od rfl, trivial⟩⟩
          · rintro a w ⟨_, hk, _⟩; cases hk
          rintro K a w ⟨s_62, hF_63, hS⟩
          obtain ⟨o, h, hN_63, hL_63⟩ := loop_more hF_63
          refine wp_seq ?_
          refine wp_seq ?_
          refine st_reg mixed (by kernel_rfl) hS ?_
          refine sc (sg (sp_move (od rfl))) ?_
          refine sc (sg (sp_move (od rfl))) ?_
          refine sc (sg (sp_len Try.underlying22 (od rfl))) ?_
          refine sc (sg (sp_lss (od rfl) (od rfl))) ?_
          refine sn fun a w hS => ?_
          refine exit_then ?_
          refine st_cond hS rfl (fun hb => ?_) (fun hb => ?_)
          · have h := ite_t hb h
            refine wp_skip ?_
            refine exit_then ?_
            refine wp_seq ?_
            refine wp_block ?_
            refine wp_seq ?_
            obtain ⟨v_66, e_67, h⟩ := bind_some h
            obtain ⟨v_68, e_69, h⟩ := bind_some h
            refine st_reg mixed (by kernel_rfl) hS ?_
            refine sc (sg (sp_move (od rfl))) ?_
            refine sc (sg (sp_move (od rfl))) ?_
            refine sc (sg (sp_indexAddr sl22 (od rfl) (od rfl) e_67)) ?_
            refine sc (sg (sp_fieldAddr fd59_0 (od rfl))) ?_
            refine sc (sg (sp_load ty3 (od rfl))) ?_
            refine sc (sg (sp_move (od rfl))) ?_
            refine sc (sg (sp_move (od rfl))) ?_
            refine sc (sg (sp_indexAddr sl22 (od rfl) (od rfl) e_69)) ?_
            refine sc (sg (sp_fieldAddr fd59_1 (od rfl))) ?_
            refine sc (sg (sp_load ty3 (od rfl))) ?_
            refine sc (sg (sp_assign (od rfl))) ?_
            refine sc (sg (sp_assign (od rfl))) ?_
            refine sn fun a w hS => ?_
            refine exit_then ?_
            refine wp_seq ?_
            have hS := st_tab 2 19 hS rfl rfl
            have hS := st_os 1 17 hS rfl rfl
            obtain ⟨v_70, e_71, h⟩ := bind_some h
            obtain ⟨v_72, e_73, h⟩ := bind_some h
            obtain ⟨v_74, e_75, h⟩ := bind_some h
            obtain ⟨v_76, e_77, h⟩ := bind_some h
            obtain ⟨v_78, e_79, h⟩ := bind_some h
            obtain ⟨z_80, e_81, h⟩ := bind_some h
            refine st_float mixed [0, 0, 0, 0, 0, 0, 0, 0, 0, 0, 0, 0, 0, 0, 0, 0, 0, 0, 0, 2] (by kernel_rfl) (by kernel_rfl) hS ?_
            refine sfA (sg (sp_move (od rfl))) ?_
            refine sfA (sg (sp_move (od rfl))) ?_
            refine sfA (sg (sp_indexAddrT Try.underlying75 sz27 (od rfl) (od rfl) e_71)) ?_
            refine sfA (sg (sp_loadTR Try.underlying27 (od rfl))) ?_
            refine sfA (sg (sp_move (od rfl))) ?_
            refine sfA (sg (sp_move (od rfl))) ?_
            refine sfA (sg (sp_move (od rfl))) ?_
            refine sfA (sg (sp_indexAddrT Try.underlying75 sz27 (od rfl) (od rfl) e_73)) ?_
            refine sfA (sg (sp_loadTR Try.underlying27 (od rfl))) ?_
            refine sfA (sg (sp_move (od rfl))) ?_
            refine sfA (sg (sp_indexAddrTA sl27 (od rfl) (od rfl) e_75)) ?_
            refine sfA (sg (sp_loadTA ty3 (od rfl))) ?_
            refine sfA (sg (sp_move (od rfl))) ?_
            refine sfA (sg (sp_move (od rfl))) ?_
            refine sfA (sg (sp_indexAddrOS sl80 (od rfl) (od rfl) e_77)) ?_
            refine sfA (sg (sp_fieldAddrB fd82_1 ((odEAB (od rfl))))) ?_
            refine sfA (sg (sp_loadB ty3 (od rfl))) ?_
            refine sfA (sg (sp_min (od rfl) (od rfl))) ?_
            refine sfA (sg (sp_indexAddrTA sl27 (od rfl) (od rfl) e_79)) ?_
            refine sfT ?_
            refine sfN fun c a w hS hC => ?_
            refine ls ?_
            refine s_storeTA (k := 2) (i := v_66.1) (j := v_68.2.1) (Δ := [(2, isV (α := Int) p2), (3, isV (α := Int) p3), (6, isA (α := S_api_Market) p0), (12, Pr.ptr b_1), (16, isV (α := List S_api_Offer) v_4), (17, Pr.is u_11), (19, Pr.is u_30), (23, isV (α := Int) s_62.1), (24, isV (α := Int) v_66.1), (25, isV (α := Int) v_68.2.1), (154, isV (α := Int) (imin v_74 v_76.2)), (155, isHA Int rs_32 v_66.1.toNat v_68.2.1.toNat)]) ty3 hS rfl ⟨od rfl, od rfl, od rfl, od rfl, od rfl, odOS rfl, odTab rfl, od rfl, od rfl, od rfl, od rfl, odHA rfl, trivial⟩ ⟨fun _ _ _ _ h => h, fun _ _ _ _ h => h, fun _ _ _ _ h => h, fun _ _ _ _ h => h, fun _ _ _ _ h => h, fun _ _ _ _ h => h, fun _ _ _ _ h => h, fun _ _ _ _ h => h, fun _ _ _ _ h => h, fun _ _ _ _ h => h, fun _ _ _ _ h => h, fun _ _ _ _ h => h, trivial⟩ (odHA rfl) (od rfl) e_81 fun w hS hM => ?_
            have hS : St _ F0 [Item.box (α := S_api_Span) 82 b_1 ((0, 0) : S_api_Span), Item.sl (α := S_api_Span) 82 u_11 z_9, Item.tab (α := Int) 27 3 u_30 o_31 rs_32 z_80] _ w0 _ _ := hS
            have hC := Mem.le_trans hC hM
            refine s_next hC ?_
            refine s_done ?_
            refine exit_then ?_
            have hS := st_tab 2 19 hS rfl rfl
            have hS := st_os 1 17 hS rfl rfl
            obtain ⟨v_82, e_83, h⟩ := bind_some h
            obtain ⟨v_84, e_85, h⟩ := bind_some h
            obtain ⟨v_86, e_87, h⟩ := bind_some h
            obtain ⟨v_88, e_89, h⟩ := bind_some h
            obtain ⟨v_90, e_91, h⟩ := bind_some h
            obtain ⟨z_92, e_93, h⟩ := bind_some h
            refine st_float mixed [0, 0, 0, 0, 0, 0, 0, 0, 0, 0, 0, 0, 0, 0, 0, 0, 0, 0, 0, 0, 2] (by kernel_rfl) (by kernel_rfl) hS ?_
            refine sfA (sg (sp_move (od rfl))) ?_
            refine sfA (sg (sp_move (od rfl))) ?_
            refine sfA (sg (sp_indexAddrT Try.underlying75 sz27 (od rfl) (od rfl) e_83)) ?_
            refine sfA (sg (sp_loadTR Try.underlying27 (od rfl))) ?_
            refine sfA (sg (sp_move (od rfl))) ?_
            refine sfA (sg (sp_move (od rfl))) ?_
            refine sfA (sg (sp_move (od rfl))) ?_
            refine sfA (sg (sp_indexAddrT Try.underlying75 sz27 (od rfl) (od rfl) e_85)) ?_
            refine sfA (sg (sp_loadTR Try.underlying27 (od rfl))) ?_
            refine sfA (sg (sp_move (od rfl))) ?_
            refine sfA (sg (sp_indexAddrTA sl27 (od rfl) (od rfl) e_87)) ?_
            refine sfA (sg (sp_loadTA ty3 (od rfl))) ?_
            refine sfA (sg (sp_move (od rfl))) ?_
            refine sfA (sg (sp_move (od rfl))) ?_
            refine sfA (sg (sp_indexAddrOS sl80 (od rfl) (od rfl) e_89)) ?_
            refine sfA (sg (sp_fieldAddrB fd82_0 ((odEAB (od rfl))))) ?_
            refine sfA (sg (sp_loadB ty3 (od rfl))) ?_
            refine sfA (sg (sp_neg (od rfl))) ?_
            refine sfA (sg (sp_min (od rfl) (od rfl))) ?_
            refine sfA (sg (sp_indexAddrTA sl27 (od rfl) (od rfl) e_91)) ?_
            refine sfT ?_
            refine sfN fun c a w hS hC => ?_
            refine ls ?_
            refine s_storeTA (k := 2) (i := v_68.2.1) (j := v_66.1) (Δ := [(2, isV (α := Int) p2), (3, isV (α := Int) p3), (6, isA (α := S_api_Market) p0), (12, Pr.ptr b_1), (16, isV (α := List S_api_Offer) v_4), (17, Pr.is u_11), (19, Pr.is u_30), (23, isV (α := Int) s_62.1), (174, isV (α := Int) (imin v_86 (wr (0 - v_88.1)))), (175, isHA Int rs_32 v_68.2.1.toNat v_66.1.toNat)]) ty3 hS rfl ⟨od rfl, od rfl, od rfl, od rfl, od rfl, odOS rfl, odTab rfl, od rfl, od rfl, odHA rfl, trivial⟩ ⟨fun _ _ _ _ h => h, fun _ _ _ _ h => h, fun _ _ _ _ h => h, fun _ _ _ _ h => h, fun _ _ _ _ h => h, fun _ _ _ _ h => h, fun _ _ _ _ h => h, fun _ _ _ _ h => h, fun _ _ _ _ h => h, fun _ _ _ _ h => h, trivial⟩ (odHA rfl) (od rfl) e_93 fun w hS hM => ?_
            have hS : St _ F0 [Item.box (α := S_api_Span) 82 b_1 ((0, 0) : S_api_Span), Item.sl (α := S_api_Span) 82 u_11 z_9, Item.tab (α := Int) 27 3 u_30 o_31 rs_32 z_92] _ w0 _ _ := hS
            have hC := Mem.le_trans hC hM
            refine s_next hC ?_
            refine s_done ?_
            refine exit_block ?_
            refine exit_then ?_
            refine st_reg mixed (by kernel_rfl) hS ?_
            refine sc (sg (sp_move (od rfl))) ?_
            refine sc (sg (sp_add (od rfl) (odi))) ?_
            refine sc (sg (sp_assign (od rfl))) ?_
            refine sn fun a w hS => ?_
            cases h
            exact ⟨_, hN_63 _ rfl, hS.weak ⟨od rfl, od rfl, od rfl, od rfl, od rfl, od rfl, od rfl, od rfl, trivial⟩⟩
          · have h := ite_f hb h
            refine wp_exit ?_
            refine exit_thenE ?_
            cases h
            obtain rfl := hL_63 _ rfl
            have h := hr_65
            refine exit_thenE ?_
            refine exit_here ?_
            refine exit_then ?_
            refine wp_seq ?_
            refine wp_seq ?_
            have hS := st_drop 1 hS
            refine st_reg mixed (by kernel_rfl) hS ?_
            refine sc (sg (sp_assign (odi))) ?_
            refine sn fun a w hS => ?_
            refine exit_then ?_
            refine wp_block ?_
            obtain ⟨o_95, e_96, hr_97⟩ := bind_some h
            refine c_loop (fun K a w => ∃ s_94 : Int × (List (List Int)), loopM _ K s_94 = some o_95 ∧ St 281 F0 [Item.box (α := S_api_Span) 82 b_1 ((0, 0) : S_api_Span), Item.tab (α := Int) 27 3 u_30 o_31 rs_32 s_94.2] [(2, isV (α := Int) p2), (3, isV (α := Int) p3), (6, isA (α := S_api_Market) p0), (12, Pr.ptr b_1), (19, Pr.is u_30), (26, isV (α := Int) s_94.1)] w0 a w) ?_ ?_ ⟨_, e_96, hS.weak ⟨od rfl, od rfl, od rfl, od rfl, od rfl, od rfl, trivial⟩⟩
            · rintro a w ⟨_, hk, _⟩; cases hk
            rintro K a w ⟨s_94, hF_95, hS⟩
            obtain ⟨o, h, hN_95, hL_95⟩ := loop_more hF_95
            refine wp_seq ?_
            refine wp_seq ?_
            refine st_reg mixed (by kernel_rfl) hS ?_
            refine sc (sg (sp_move (od rfl))) ?_
            refine sc (sg (sp_fieldAddr fd24_0 (od rfl))) ?_
            refine sc (sg (sp_load ty3 (od rfl))) ?_
            refine sc (sg (sp_lss (od rfl) (od rfl))) ?_
            refine sn fun a w hS => ?_
            refine exit_then ?_
            refine st_cond hS rfl (fun hb => ?_) (fun hb => ?_)
            · have h := ite_t hb h
              refine wp_skip ?_
              refine exit_then ?_
              refine wp_seq ?_
              refine wp_block ?_
              refine wp_seq ?_
              refine wp_seq ?_
              refine st_reg mixed (by kernel_rfl) hS ?_
              refine sc (sg (sp_assign (odi))) ?_
              refine sn fun a w hS => ?_
              refine exit_then ?_
              refine wp_block ?_
              obtain ⟨o_99, e_100, hr_101⟩ := bind_some h
              refine c_loop (fun K a w => ∃ s_98 : Int × (List (List Int)), loopM _ K s_98 = some o_99 ∧ St 281 F0 [Item.box (α := S_api_Span) 82 b_1 ((0, 0) : S_api_Span), Item.tab (α := Int) 27 3 u_30 o_31 rs_32 s_98.2] [(2, isV (α := Int) p2), (3, isV (α := Int) p3), (6, isA (α := S_api_Market) p0), (12, Pr.ptr b_1), (19, Pr.is u_30), (26, isV (α := Int) s_94.1), (27, isV (α := Int) s_98.1)] w0 a w) ?_ ?_ ⟨_, e_100, hS.weak ⟨od rfl, od rfl, od rfl, od rfl, od rfl, od rfl, od rfl, trivial⟩⟩
              · rintro a w ⟨_, hk, _⟩; cases hk
              rintro K a w ⟨s_98, hF_99, hS⟩
              obtain ⟨o, h, hN_99, hL_99⟩ := loop_more hF_99
              refine wp_seq ?_
              refine wp_seq ?_
              refine st_reg mixed (by kernel_rfl) hS ?_
              refine sc (sg (sp_move (od rfl))) ?_
              refine sc (sg (sp_fieldAddr fd24_0 (od rfl))) ?_
              refine sc (sg (sp_load ty3 (od rfl))) ?_
              refine sc (sg (sp_lss (od rfl) (od rfl))) ?_
              refine sn fun a w hS => ?_
              refine exit_then ?_
              refine st_cond hS rfl (fun hb => ?_) (fun hb => ?_)
              · have h := ite_t hb h
                refine wp_skip ?_
                refine exit_then ?_
                refine wp_seq ?_
                refine wp_block ?_
                refine wp_seq ?_
                refine st_reg mixed (by kernel_rfl) hS ?_
                refine sc (sg (sp_assign (odi))) ?_
                refine sn fun a w hS => ?_
                refine exit_then ?_
                refine wp_block ?_
                obtain ⟨o_103, e_104, hr_105⟩ := bind_some h
                refine c_loop (fun K a w => ∃ s_102 : Int × (List (List Int)), loopM _ K s_102 = some o_103 ∧ St 281 F0 [Item.box (α := S_api_Span) 82 b_1 ((0, 0) : S_api_Span), Item.tab (α := Int) 27 3 u_30 o_31 rs_32 s_102.2] [(2, isV (α := Int) p2), (3, isV (α := Int) p3), (6, isA (α := S_api_Market) p0), (12, Pr.ptr b_1), (19, Pr.is u_30), (26, isV (α := Int) s_94.1), (27, isV (α := Int) s_98.1), (28, isV (α := Int) s_102.1)] w0 a w) ?_ ?_ ⟨_, e_104, hS.weak ⟨od rfl, od rfl, od rfl, od rfl, od rfl, od rfl, od rfl, od rfl, trivial⟩⟩
                · rintro a w ⟨_, hk, _⟩; cases hk
                rintro K a w ⟨s_102, hF_103, hS⟩
                obtain ⟨o, h, hN_103, hL_103⟩ := loop_more hF_103
                refine wp_seq ?_
                refine wp_seq ?_
                refine st_reg mixed (by kernel_rfl) hS ?_
                refine sc (sg (sp_move (od rfl))) ?_
                refine sc (sg (sp_fieldAddr fd24_0 (od rfl))) ?_
                refine sc (sg (sp_load ty3 (od rfl))) ?_
                refine sc (sg (sp_lss (od rfl) (od rfl))) ?_
                refine sn fun a w hS => ?_
                refine exit_then ?_
                refine st_cond hS rfl (fun hb => ?_) (fun hb => ?_)
                · have h := ite_t hb h
                  refine wp_skip ?_
                  refine exit_then ?_
                  refine wp_seq ?_
                  refine wp_block ?_
                  refine wp_seq ?_
                  have hS := st_tab 1 19 hS rfl rfl
                  obtain ⟨v_106, e_107, h⟩ := bind_some h
                  obtain ⟨v_108, e_109, h⟩ := bind_some h
                  obtain ⟨v_110, e_111, h⟩ := bind_some h
                  obtain ⟨v_112, e_113, h⟩ := bind_some h
                  refine st_reg mixed (by kernel_rfl) hS ?_
                  refine sc (sg (sp_move (od rfl))) ?_
                  refine sc (sg (sp_move (od rfl))) ?_
                  refine sc (sg (sp_indexAddrT Try.underlying75 sz27 (od rfl) (od rfl) e_107)) ?_
                  refine sc (sg (sp_loadTR Try.underlying27 (od rfl))) ?_
                  refine sc (sg (sp_move (od rfl))) ?_
                  refine sc (sg (sp_indexAddrTA sl27 (od rfl) (od rfl) e_109)) ?_
                  refine sc (sg (sp_loadTA ty3 (od rfl))) ?_
                  refine sc (sg (sp_lss (od rfl) (odi))) ?_
                  refine sc (sg (sp_move (od rfl))) ?_
                  refine sc (sgT rfl fun hG => sp_move (od rfl)) ?_
                  refine sc (sgT rfl fun hG => sp_move (od rfl)) ?_
                  refine sc (sgT rfl fun hG => sp_indexAddrT Try.underlying75 sz27 (odw rfl hG) (odw rfl hG) (guard_some e_111 hG)) ?_
                  refine sc (sgT rfl fun hG => sp_loadTR Try.underlying27 (odw rfl hG)) ?_
                  refine sc (sgT rfl fun hG => sp_move (od rfl)) ?_
                  refine sc (sgT rfl fun hG => sp_indexAddrTA sl27 (odw rfl hG) (odw rfl hG) (guard_some e_113 hG)) ?_
                  refine sc (sgT rfl fun hG => sp_loadTA ty3 (odw rfl hG)) ?_
                  refine sc (sgT rfl fun hG => sp_lss (odw rfl hG) (odi)) ?_
                  refine sc (sg (sp_pickAnd (od rfl) fun hg => odw rfl hg)) ?_
                  refine sn fun a w hS => ?_
                  refine exit_then ?_
                  obtain ⟨y_115, hj_114, h⟩ := bind_some h
                  refine wp_mono (Q := fun e a w => e = Exit.normal ∧ St 281 F0 [Item.box (α := S_api_Span) 82 b_1 ((0, 0) : S_api_Span), Item.tab (α := Int) 27 3 u_30 o_31 rs_32 y_115] [(2, isV (α := Int) p2), (3, isV (α := Int) p3), (6, isA (α := S_api_Market) p0), (12, Pr.ptr b_1), (19, Pr.is u_30), (26, isV (α := Int) s_94.1), (27, isV (α := Int) s_98.1), (28, isV (α := Int) s_102.1)] w0 a w) ?_ ?_
                  · refine st_cond hS rfl (fun hb => ?_) (fun hb => ?_)
                    · have h := ite_t hb hj_114
                      obtain ⟨v_116, e_117, h⟩ := bind_some h
                      obtain ⟨v_118, e_119, h⟩ := bind_some h
                      obtain ⟨v_120, e_121, h⟩ := bind_some h
                      obtain ⟨v_122, e_123, h⟩ := bind_some h
                      obtain ⟨v_124, e_125, h⟩ := bind_some h
                      obtain ⟨v_126, e_127, h⟩ := bind_some h
                      obtain ⟨v_128, e_129, h⟩ := bind_some h
                      obtain ⟨v_130, e_131, h⟩ := bind_some h
                      obtain ⟨z_132, e_133, h⟩ := bind_some h
                      refine st_float mixed [0, 0, 0, 0, 0, 0, 0, 0, 0, 0, 0, 0, 0, 0, 0, 0, 0, 0, 0, 0, 0, 0, 0, 0, 0, 0, 0, 0, 0, 2] (by kernel_rfl) (by kernel_rfl) hS ?_
                      refine sfA (sg (sp_move (od rfl))) ?_
                      refine sfA (sg (sp_move (od rfl))) ?_
                      refine sfA (sg (sp_indexAddrT Try.underlying75 sz27 (od rfl) (od rfl) e_117)) ?_
                      refine sfA (sg (sp_loadTR Try.underlying27 (od rfl))) ?_
                      refine sfA (sg (sp_move (od rfl))) ?_
                      refine sfA (sg (sp_move (od rfl))) ?_
                      refine sfA (sg (sp_move (od rfl))) ?_
                      refine sfA (sg (sp_indexAddrT Try.underlying75 sz27 (od rfl) (od rfl) e_119)) ?_
                      refine sfA (sg (sp_loadTR Try.underlying27 (od rfl))) ?_
                      refine sfA (sg (sp_move (od rfl))) ?_
                      refine sfA (sg (sp_indexAddrTA sl27 (od rfl) (od rfl) e_121)) ?_
                      refine sfA (sg (sp_loadTA ty3 (od rfl))) ?_
                      refine sfA (sg (sp_move (od rfl))) ?_
                      refine sfA (sg (sp_move (od rfl))) ?_
                      refine sfA (sg (sp_indexAddrT Try.underlying75 sz27 (od rfl) (od rfl) e_123)) ?_
                      refine sfA (sg (sp_loadTR Try.underlying27 (od rfl))) ?_
                      refine sfA (sg (sp_move (od rfl))) ?_
                      refine sfA (sg (sp_indexAddrTA sl27 (od rfl) (od rfl) e_125)) ?_
                      refine sfA (sg (sp_loadTA ty3 (od rfl))) ?_
                      refine sfA (sg (sp_move (od rfl))) ?_
                      refine sfA (sg (sp_move (od rfl))) ?_
                      refine sfA (sg (sp_indexAddrT Try.underlying75 sz27 (od rfl) (od rfl) e_127)) ?_
                      refine sfA (sg (sp_loadTR Try.underlying27 (od rfl))) ?_
                      refine sfA (sg (sp_move (od rfl))) ?_
                      refine sfA (sg (sp_indexAddrTA sl27 (od rfl) (od rfl) e_129)) ?_
                      refine sfA (sg (sp_loadTA ty3 (od rfl))) ?_
                      refine sfA (sg (sp_add (od rfl) (od rfl))) ?_
                      refine sfA (sg (sp_min (od rfl) (od rfl))) ?_
                      refine sfA (sg (sp_indexAddrTA sl27 (od rfl) (od rfl) e_131)) ?_
                      refine sfT ?_
                      refine sfN fun c a w hS hC => ?_
                      refine ls ?_
                      refine s_storeTA (k := 1) (i := s_98.1) (j := s_102.1) (Δ := [(2, isV (α := Int) p2), (3, isV (α := Int) p3), (6, isA (α := S_api_Market) p0), (12, Pr.ptr b_1), (19, Pr.is u_30), (26, isV (α := Int) s_94.1), (27, isV (α := Int) s_98.1), (28, isV (α := Int) s_102.1), (239, isV (α := Int) (imin v_120 (wr (v_124 + v_128)))), (240, isHA Int rs_32 s_98.1.toNat s_102.1.toNat)]) ty3 hS rfl ⟨od rfl, od rfl, od rfl, od rfl, odTab rfl, od rfl, od rfl, od rfl, od rfl, odHA rfl, trivial⟩ ⟨fun _ _ _ _ h => h, fun _ _ _ _ h => h, fun _ _ _ _ h => h, fun _ _ _ _ h => h, fun _ _ _ _ h => h, fun _ _ _ _ h => h, fun _ _ _ _ h => h, fun _ _ _ _ h => h, fun _ _ _ _ h => h, fun _ _ _ _ h => h, trivial⟩ (odHA rfl) (od rfl) e_133 fun w hS hM => ?_
                      have hS : St _ F0 [Item.box (α := S_api_Span) 82 b_1 ((0, 0) : S_api_Span), Item.tab (α := Int) 27 3 u_30 o_31 rs_32 z_132] _ w0 _ _ := hS
                      have hC := Mem.le_trans hC hM
                      refine s_next hC ?_
                      refine s_done ?_
                      cases h
                      exact ⟨rfl, hS.weak ⟨od rfl, od rfl, od rfl, od rfl, od rfl, od rfl, od rfl, od rfl, trivial⟩⟩
                    · have h := ite_f hb hj_114
                      refine wp_skip ?_
                      cases h
                      exact ⟨rfl, hS.weak ⟨od rfl, od rfl, od rfl, od rfl, odTab rfl, od rfl, od rfl, od rfl, trivial⟩⟩
                  rintro e a w ⟨rfl, hS⟩
                  refine exit_block ?_
                  refine exit_then ?_
                  refine st_reg mixed (by kernel_rfl) hS ?_
                  refine sc (sg (sp_move (od rfl))) ?_
                  refine sc (sg (sp_add (od rfl) (odi))) ?_
                  refine sc (sg (sp_assign (od rfl))) ?_
                  refine sn fun a w hS => ?_
                  cases h
                  exact ⟨_, hN_103 _ rfl, hS.weak ⟨od rfl, od rfl, od rfl, od rfl, od rfl, od rfl, od rfl, od rfl, trivial⟩⟩
                · have h := ite_f hb h
                  refine wp_exit ?_
                  refine exit_thenE ?_
                  cases h
                  obtain rfl := hL_103 _ rfl
                  have h := hr_105
                  refine exit_thenE ?_
                  refine exit_here ?_
                  refine exit_block ?_
                  refine exit_then ?_
                  refine st_reg mixed (by kernel_rfl) hS ?_
                  refine sc (sg (sp_move (od rfl))) ?_
                  refine sc (sg (sp_add (od rfl) (odi))) ?_
                  refine sc (sg (sp_assign (od rfl))) ?_
                  refine sn fun a w hS => ?_
                  cases h
                  exact ⟨_, hN_99 _ rfl, hS.weak ⟨od rfl, od rfl, od rfl, od rfl, od rfl, od rfl, od rfl, trivial⟩⟩
              · have h := ite_f hb h
                refine wp_exit ?_
                refine exit_thenE ?_
                cases h
                obtain rfl := hL_99 _ rfl
                have h := hr_101
                refine exit_thenE ?_
                refine exit_here ?_
                refine exit_then ?_
                refine wp_seq ?_
                refine st_reg mixed (by kernel_rfl) hS ?_
                refine sc (sg (sp_assign (odi))) ?_
                refine sn fun a w hS => ?_
                refine exit_then ?_
                refine wp_block ?_
                obtain ⟨o_136, e_137, hr_138⟩ := bind_some h
                refine c_loop (fun K a w => ∃ s_135 : Int, loopM _ K s_135 = some o_136 ∧ St 281 F0 [Item.box (α := S_api_Span) 82 b_1 ((0, 0) : S_api_Span), Item.tab (α := Int) 27 3 u_30 o_31 rs_32 s_98.2] [(2, isV (α := Int) p2), (3, isV (α := Int) p3), (6, isA (α := S_api_Market) p0), (12, Pr.ptr b_1), (19, Pr.is u_30), (26, isV (α := Int) s_94.1), (29, isV (α := Int) s_135)] w0 a w) ?_ ?_ ⟨_, e_137, hS.weak ⟨od rfl, od rfl, od rfl, od rfl, od rfl, od rfl, od rfl, trivial⟩⟩
                · rintro a w ⟨_, hk, _⟩; cases hk
                rintro K a w ⟨s_135, hF_136, hS⟩
                obtain ⟨o, h, hN_136, hL_136⟩ := loop_more hF_136
                refine wp_seq ?_
                refine wp_seq ?_
                refine st_reg mixed (by kernel_rfl) hS ?_
                refine sc (sg (sp_move (od rfl))) ?_
                refine sc (sg (sp_fieldAddr fd24_0 (od rfl))) ?_
                refine sc (sg (sp_load ty3 (od rfl))) ?_
                refine sc (sg (sp_lss (od rfl) (od rfl))) ?_
                refine sn fun a w hS => ?_
                refine exit_then ?_
                refine st_cond hS rfl (fun hb => ?_) (fun hb => ?_)
                · have h := ite_t hb h
                  refine wp_skip ?_
                  refine exit_then ?_
                  refine wp_seq ?_
                  refine wp_block ?_
                  refine wp_seq ?_
                  have hS := st_tab 1 19 hS rfl rfl
                  obtain ⟨v_139, e_140, h⟩ := bind_some h
                  obtain ⟨v_141, e_142, h⟩ := bind_some h
                  refine st_reg mixed (by kernel_rfl) hS ?_
                  refine sc (sg (sp_move (od rfl))) ?_
                  refine sc (sg (sp_move (od rfl))) ?_
                  refine sc (sg (sp_indexAddrT Try.underlying75 sz27 (od rfl) (od rfl) e_140)) ?_
                  refine sc (sg (sp_loadTR Try.underlying27 (od rfl))) ?_
                  refine sc (sg (sp_move (od rfl))) ?_
                  refine sc (sg (sp_indexAddrTA sl27 (od rfl) (od rfl) e_142)) ?_
                  refine sc (sg (sp_loadTA ty3 (od rfl))) ?_
                  refine sc (sg (sp_lss (od rfl) (odi))) ?_
                  refine sn fun a w hS => ?_
                  refine exit_then ?_
                  refine st_cond hS rfl (fun hb => ?_) (fun hb => ?_)
                  · have h := ite_t hb h
                    refine wp_seq ?_
                    have hS := st_drop 1 hS
                    refine l_start ?_
                    refine s_c hS (sg (bd82_ )) rfl fun a w hS hM => ?_
                    refine s_storeB (k := 0) (Δ := [(12, Pr.ptr b_1), (255, isV (α := S_api_Span) ((0, 0) : S_api_Span))]) ty82 hS rfl ⟨od rfl, od rfl, trivial⟩ ⟨fun _ _ _ _ h => h, fun _ _ _ _ h => h, trivial⟩ rfl (od rfl) fun w hS hM => ?_
                    have hS : St _ F0 [Item.box (α := S_api_Span) 82 b_1 ((0, 0) : S_api_Span)] _ w0 _ _ := hS
                    refine s_c hS (sg (sp_assign (odb))) rfl fun a w hS hM => ?_
                    refine s_c hS (sg (sp_assign (odi))) rfl fun a w hS hM => ?_
                    refine l_end ?_
                    refine exit_then ?_
                    refine wp_ret ?_
                    refine exit_blockR ?_
                    refine exit_thenR ?_
                    have hS := st_freezeB 0 12 hS rfl rfl
                    cases h
                    obtain rfl := hL_136 _ rfl
                    have h := (sum_inr hr_138)
                    refine exit_thenR ?_
                    refine exit_blockR ?_
                    refine exit_blockR ?_
                    refine exit_thenR ?_
                    cases h
                    obtain rfl := hL_95 _ rfl
                    have h := (sum_inr hr_97)
                    refine exit_thenR ?_
                    refine exit_blockR ?_
                    refine exit_thenR ?_
                    cases h
                    obtain ⟨v, hr, hv⟩ := run_resC3 Try.results62 ty82 (hS.get rfl)
                    exact st_ret hS hr ⟨_, rfl, hv, hS.get rfl, hS.get rfl, trivial⟩
                  · have h := ite_f hb h
                    refine wp_skip ?_
                    refine exit_block ?_
                    refine exit_then ?_
                    refine st_reg mixed (by kernel_rfl) hS ?_
                    refine sc (sg (sp_move (od rfl))) ?_
                    refine sc (sg (sp_add (od rfl) (odi))) ?_
                    refine sc (sg (sp_assign (od rfl))) ?_
                    refine sn fun a w hS => ?_
                    cases h
                    exact ⟨_, hN_136 _ rfl, hS.weak ⟨od rfl, od rfl, od rfl, od rfl, odTab rfl, od rfl, od rfl, trivial⟩⟩
                · have h := ite_f hb h
                  refine wp_exit ?_
                  refine exit_thenE ?_
                  cases h
                  obtain rfl := hL_136 _ rfl
                  have h := (sum_inl hr_138)
                  refine exit_thenE ?_
                  refine exit_here ?_
                  refine exit_block ?_
                  refine exit_then ?_
                  refine st_reg mixed (by kernel_rfl) hS ?_
                  refine sc (sg (sp_move (od rfl))) ?_
                  refine sc (sg (sp_add (od rfl) (odi))) ?_
                  refine sc (sg (sp_assign (od rfl))) ?_
                  refine sn fun a w hS => ?_
                  cases h
                  exact ⟨_, hN_95 _ rfl, hS.weak ⟨od rfl, od rfl, od rfl, od rfl, od rfl, od rfl, trivial⟩⟩
            · have h := ite_f hb h
              refine wp_exit ?_
              refine exit_thenE ?_
              cases h
              obtain rfl := hL_95 _ rfl
              have h := (sum_inl hr_97)
              refine exit_thenE ?_
              refine exit_here ?_
              refine exit_then ?_
              refine wp_seq ?_
              refine wp_seq ?_
              have hS := st_tab 1 19 hS rfl rfl
              obtain ⟨v_156, e_157, h⟩ := bind_some h
              obtain ⟨v_158, e_159, h⟩ := bind_some h
              refine st_reg mixed (by kernel_rfl) hS ?_
              refine sc (sg (sp_move (od rfl))) ?_
              refine sc (sg (sp_move (od rfl))) ?_
              refine sc (sg (sp_indexAddrT Try.underlying75 sz27 (od rfl) (od rfl) e_157)) ?_
              refine sc (sg (sp_loadTR Try.underlying27 (od rfl))) ?_
              refine sc (sg (sp_move (od rfl))) ?_
              refine sc (sg (sp_indexAddrTA sl27 (od rfl) (od rfl) e_159)) ?_
              refine sc (sg (sp_loadTA ty3 (od rfl))) ?_
              refine sc (sg (sp_geq (od rfl) (odi))) ?_
              refine sn fun a w hS => ?_
              refine exit_then ?_
              refine st_cond hS rfl (fun hb => ?_) (fun hb => ?_)
              · have h := ite_t hb h
                refine wp_seq ?_
                have hS := st_drop 1 hS
                refine l_start ?_
                refine s_c hS (sg (bd82_ )) rfl fun a w hS hM => ?_
                refine s_storeB (k := 0) (Δ := [(12, Pr.ptr b_1), (264, isV (α := S_api_Span) ((0, 0) : S_api_Span))]) ty82 hS rfl ⟨od rfl, od rfl, trivial⟩ ⟨fun _ _ _ _ h => h, fun _ _ _ _ h => h, trivial⟩ rfl (od rfl) fun w hS hM => ?_
                have hS : St _ F0 [Item.box (α := S_api_Span) 82 b_1 ((0, 0) : S_api_Span)] _ w0 _ _ := hS
                refine s_c hS (sg (sp_assign (odb))) rfl fun a w hS hM => ?_
                refine s_c hS (sg (sp_assign (odi))) rfl fun a w hS hM => ?_
                refine l_end ?_
                refine exit_then ?_
                refine wp_ret ?_
                refine exit_thenR ?_
                have hS := st_freezeB 0 12 hS rfl rfl
                cases h
                obtain ⟨v, hr, hv⟩ := run_resC3 Try.results62 ty82 (hS.get rfl)
                exact st_ret hS hr ⟨_, rfl, hv, hS.get rfl, hS.get rfl, trivial⟩
              · have h := ite_f hb h
                refine wp_skip ?_
                refine exit_then ?_
                refine wp_seq ?_
                obtain ⟨v_160, e_161, h⟩ := bind_some h
                obtain ⟨v_162, e_163, h⟩ := bind_some h
                obtain ⟨v_164, e_165, h⟩ := bind_some h
                obtain ⟨v_166, e_167, h⟩ := bind_some h
                refine st_float mixed [0, 0, 0, 0, 0, 0, 0, 0, 0, 0, 0, 0, 0, 0, 0, 0, 2, 2, 2] (by kernel_rfl) (by kernel_rfl) hS ?_
                refine sfA (sg (sp_move (od rfl))) ?_
                refine sfA (sg (sp_move (od rfl))) ?_
                refine sfA (sg (sp_indexAddrT Try.underlying75 sz27 (od rfl) (od rfl) e_161)) ?_
                refine sfA (sg (sp_loadTR Try.underlying27 (od rfl))) ?_
                refine sfA (sg (sp_move (od rfl))) ?_
                refine sfA (sg (sp_indexAddrTA sl27 (od rfl) (od rfl) e_163)) ?_
                refine sfA (sg (sp_loadTA ty3 (od rfl))) ?_
                refine sfA (sg (sp_neg (od rfl))) ?_
                refine sfA (sg (sp_move (od rfl))) ?_
                refine sfA (sg (sp_move (od rfl))) ?_
                refine sfA (sg (sp_indexAddrT Try.underlying75 sz27 (od rfl) (od rfl) e_165)) ?_
                refine sfA (sg (sp_loadTR Try.underlying27 (od rfl))) ?_
                refine sfA (sg (sp_move (od rfl))) ?_
                refine sfA (sg (sp_indexAddrTA sl27 (od rfl) (od rfl) e_167)) ?_
                refine sfA (sg (sp_loadTA ty3 (od rfl))) ?_
                refine sfA (sg (bd82_01 (od rfl) (od rfl))) ?_
                refine sfT ?_
                refine sfT ?_
                refine sfT ?_
                refine sfN fun c a w hS hC => ?_
                refine ls ?_
                refine s_storeB (k := 0) (Δ := [(12, Pr.ptr b_1), (280, isV (α := S_api_Span) (((wr (0 - v_162)), v_166) : S_api_Span))]) ty82 hS rfl ⟨od rfl, od rfl, trivial⟩ ⟨fun _ _ _ _ h => h, fun _ _ _ _ h => h, trivial⟩ rfl (od rfl) fun w hS hM => ?_
                have hS : St _ F0 [Item.box (α := S_api_Span) 82 b_1 (((wr (0 - v_162)), v_166) : S_api_Span), Item.tab (α := Int) 27 3 u_30 o_31 rs_32 s_94.2] _ w0 _ _ := hS
                have hC := Mem.le_trans hC hM
                refine s_next hC ?_
                refine ls ?_
                refine s_c hS (sg (sp_assign (odb))) rfl fun a w hS hM => ?_
                have hC := Mem.le_trans hC hM
                refine s_next hC ?_
                refine ls ?_
                refine s_c hS (sg (sp_assign (odi))) rfl fun a w hS hM => ?_
                have hC := Mem.le_trans hC hM
                refine s_next hC ?_
                refine s_done ?_
                refine exit_then ?_
                refine wp_ret ?_
                have hS := st_freezeB 0 12 hS rfl rfl
                cases h
                obtain ⟨v, hr, hv⟩ := run_resC3 Try.results62 ty82 (hS.get rfl)
                exact st_ret hS hr ⟨_, rfl, hv, hS.get rfl, hS.get rfl, trivial⟩

theorem f111_ok {p0 : Int} {c0 : List (List Int)} {c1 : Int} {r : Int} (h : M.f111 p0 c0 c1 = some r) : CallOK Try.prog 111 [isV p0, isA c0, isA c1] (isV r) := by
  unfold M.f111 at h
  refine callS_of Try.func111 rfl Try.ntmps111 rfl fun F0 w0 a hS => ?_
  refine wp_seq ?_
  refine st_reg mixed (by kernel_rfl) hS ?_
  refine sc (sg (sp_assign (odi))) ?_
  refine sn fun a w hS => ?_
  refine exit_then ?_
  refine wp_seq ?_
  refine wp_seq ?_
  obtain ⟨v_1, e_2, h⟩ := bind_some h
  obtain ⟨v_3, e_4, h⟩ := bind_some h
  refine st_reg mixed (by kernel_rfl) hS ?_
  refine sc (sg (sp_load ty112 (od rfl))) ?_
  refine sc (sg (sp_load ty3 (od rfl))) ?_
  refine sc (sg (sp_indexAddr sl112 (od rfl) (od rfl) e_2)) ?_
  refine sc (sg (sp_load ty27 (od rfl))) ?_
  refine sc (sg (sp_move (od rfl))) ?_
  refine sc (sg (sp_indexAddr sl27 (od rfl) (od rfl) e_4)) ?_
  refine sc (sg (sp_load ty3 (od rfl))) ?_
  refine sc (sg (sp_geq (od rfl) (odi))) ?_
  refine sn fun a w hS => ?_
  refine exit_then ?_
  refine st_cond hS rfl (fun hb => ?_) (fun hb => ?_)
  · have h := ite_t hb h
    refine wp_seq ?_
    refine st_reg mixed (by kernel_rfl) hS ?_
    refine sc (sg (sp_assign (odi))) ?_
    refine sn fun a w hS => ?_
    refine exit_then ?_
    refine wp_ret ?_
    refine exit_thenR ?_
    cases h
    exact st_ret hS (run_results1 Try.results111 a w) (hS.get rfl)
  · have h := ite_f hb h
    refine wp_skip ?_
    refine exit_then ?_
    refine wp_seq ?_
    obtain ⟨v_5, e_6, h⟩ := bind_some h
    obtain ⟨v_7, e_8, h⟩ := bind_some h
    refine st_reg mixed (by kernel_rfl) hS ?_
    refine sc (sg (sp_load ty112 (od rfl))) ?_
    refine sc (sg (sp_load ty3 (od rfl))) ?_
    refine sc (sg (sp_indexAddr sl112 (od rfl) (od rfl) e_6)) ?_
    refine sc (sg (sp_load ty27 (od rfl))) ?_
    refine sc (sg (sp_move (od rfl))) ?_
    refine sc (sg (sp_indexAddr sl27 (od rfl) (od rfl) e_8)) ?_
    refine sc (sg (sp_load ty3 (od rfl))) ?_
    refine sc (sg (sp_assign (od rfl))) ?_
    refine sn fun a w hS => ?_
    refine exit_then ?_
    refine wp_ret ?_
    cases h
    exact st_ret hS (run_results1 Try.results111 a w) (hS.get rfl)

theorem f112_ok {p0 : S_api_Offer} {c0 : (Int → Option Int)} {r : S_api_Span} (h : M.f112 p0 c0 = some r) : CallOK Try.prog 112 [isV p0, isA c0] (isV r) := by
  unfold M.f112 at h
  refine callS_of Try.func112 rfl Try.ntmps112 rfl fun F0 w0 a hS => ?_
  refine wp_seq ?_
  refine l_start ?_
  refine s_c hS (sg (sp_box (od rfl))) rfl fun a w hS hM => ?_
  refine s_alloc zi82 hS rfl fun a w b_1 hS hM => ?_
  have hS : St _ F0 [Item.box (α := S_api_Span) 82 b_1 ((0, 0) : S_api_Span)] _ w0 _ _ := hS
  refine l_end ?_
  refine exit_then ?_
  refine wp_seq ?_
  obtain ⟨v_2, e_3, h⟩ := bind_some h
  obtain ⟨v_4, e_5, h⟩ := bind_some h
  refine st_reg mixed (by kernel_rfl) hS ?_
  refine sc (sg (sp_load ty122 (od rfl))) ?_
  refine sc (sg (sp_fieldAddr fd59_1 (od rfl))) ?_
  refine sc (sg (sp_load ty3 (od rfl))) ?_
  refine sc (sg (sp_callV (od_fn122 (od rfl)) ⟨od rfl, trivial⟩ e_3)) ?_
  refine sc (sg (sp_load ty122 (od rfl))) ?_
  refine sc (sg (sp_fieldAddr fd59_0 (od rfl))) ?_
  refine sc (sg (sp_load ty3 (od rfl))) ?_
  refine sc (sg (sp_callV (od_fn122 (od rfl)) ⟨od rfl, trivial⟩ e_5)) ?_
  refine sc (sg (sp_sub (od rfl) (od rfl))) ?_
  refine sc (sg (sp_min (odi) (od rfl))) ?_
  refine sc (sg (sp_assign (od rfl))) ?_
  refine sn fun a w hS => ?_
  refine exit_then ?_
  refine wp_seq ?_
  refine l_start ?_
  refine s_c hS (sg (sp_move (od rfl))) rfl fun a w hS hM => ?_
  refine s_c hS (sg (sp_move (od rfl))) rfl fun a w hS hM => ?_
  refine s_c hS (sg (sp_fieldAddr fd59_3 (od rfl))) rfl fun a w hS hM => ?_
  refine s_c hS (sg (sp_load ty3 (od rfl))) rfl fun a w hS hM => ?_
  refine s_c hS (sg (sp_add (od rfl) (od rfl))) rfl fun a w hS hM => ?_
  refine s_c hS (sg (bd82_01 (od rfl) (od rfl))) rfl fun a w hS hM => ?_
  refine s_storeB (k := 0) (Δ := [(3, Pr.ptr b_1), (20, isV (α := S_api_Span) (((imin 0 (wr (v_2 - v_4))), (wr ((imin 0 (wr (v_2 - v_4))) + p0.2.2.2))) : S_api_Span))]) ty82 hS rfl ⟨od rfl, od rfl, trivial⟩ ⟨fun _ _ _ _ h => h, fun _ _ _ _ h => h, trivial⟩ rfl (od rfl) fun w hS hM => ?_
  have hS : St _ F0 [Item.box (α := S_api_Span) 82 b_1 (((imin 0 (wr (v_2 - v_4))), (wr ((imin 0 (wr (v_2 - v_4))) + p0.2.2.2))) : S_api_Span)] _ w0 _ _ := hS
  have hS := st_freezeB 0 3 hS rfl rfl
  refine l_end ?_
  refine exit_then ?_
  refine wp_ret ?_
  cases h
  obtain ⟨v, hr, hv⟩ := run_resC1 Try.results112 ty82 (hS.get rfl)
  exact st_ret hS hr hv

theorem f63_ok {p0 : S_api_Market} {p1 : List Int} {p2 : Int} {p3 : Int} {r : (List S_api_Span) × (List S_api_Span) × Int} (h : M.f63 p0 p1 p2 p3 = some r) : CallOK Try.prog 63 [isV p0, isV p1, isV p2, isV p3] (isTup [isV r.1, isV r.2.1, isV r.2.2]) := by
  unfold M.f63 at h
  refine callS_of Try.func63 rfl Try.ntmps63 rfl fun F0 w0 a hS => ?_
  refine wp_seq ?_
  refine st_reg mixed (by kernel_rfl) hS ?_
  refine sc (sg (sp_box (od rfl))) ?_
  refine sc (sg (sp_box (od rfl))) ?_
  refine sc (sg (sp_assign (odnil (α := S_api_Span)))) ?_
  refine sc (sg (sp_assign (odnil (α := S_api_Span)))) ?_
  refine sc (sg (sp_assign (odi))) ?_
  refine sn fun a w hS => ?_
  refine exit_then ?_
  refine wp_seq ?_
  refine wp_seq ?_
  obtain ⟨v_1, e_2, h⟩ := bind_some h
  refine st_reg mixed (by kernel_rfl) hS ?_
  refine sc (sg (sp_load ty24 (od rfl))) ?_
  refine sc (sg (sp_move (od rfl))) ?_
  refine sc (sg (sp_load ty3 (od rfl))) ?_
  refine sc (sg (sp_move (od rfl))) ?_
  refine sc (sg (sp_buildSlice [.tmp 23, .tmp 24] ([p2, p3] : List Int) sl27 ze3 rfl rfl rfl rfl ⟨od rfl, od rfl, trivial⟩)) ?_
  refine sc (sg (bd106_0 (od rfl))) ?_
  refine sc (sg (sp_call en76 (f76_ok e_2) ⟨od rfl, od rfl, od rfl, trivial⟩)) ?_
  refine sc (sg (sp_assign (od rfl))) ?_
  refine sn fun a w hS => ?_
  refine exit_then ?_
  refine wp_seq ?_
  refine st_reg mixed (by kernel_rfl) hS ?_
  refine sc (sg (sp_move (od rfl))) ?_
  refine sc (sg (sp_neq (od rfl) (odi))) ?_
  refine sn fun a w hS => ?_
  refine exit_then ?_
  refine st_cond hS rfl (fun hb => ?_) (fun hb => ?_)
  · have h := ite_t hb h
    refine wp_seq ?_
    refine st_reg mixed (by kernel_rfl) hS ?_
    refine sc (sg (sp_move (od rfl))) ?_
    refine sc (sg (sp_assign (odnil (α := S_api_Span)))) ?_
    refine sc (sg (sp_assign (odnil (α := S_api_Span)))) ?_
    refine sc (sg (sp_assign (od rfl))) ?_
    refine sn fun a w hS => ?_
    refine exit_then ?_
    refine wp_ret ?_
    refine exit_thenR ?_
    cases h
    exact st_ret hS (run_results3 Try.results63 a w) (⟨_, rfl, hS.get rfl, hS.get rfl, hS.get rfl, trivial⟩)
  · have h := ite_f hb h
    refine wp_skip ?_
    refine exit_then ?_
    refine wp_seq ?_
    obtain ⟨v_3, e_4, h⟩ := bind_some h
    obtain ⟨v_5, e_6, h⟩ := bind_some h
    have hS := hS.weak (Δ := [(0, isV (α := S_api_Market) p0), (1, isV (α := List Int) p1), (2, isV (α := Int) p2), (3, isV (α := Int) p3), (4, isA (α := S_api_Market) p0), (6, isA (α := Int) p2), (8, isV (α := List S_api_Span) ([] : List S_api_Span)), (9, isV (α := List S_api_Span) ([] : List S_api_Span)), (10, isV (α := Int) 0), (11, isV (α := Int) v_1), (21, isV (α := S_api_Market) p0), (22, isV (α := List Int) p1), (23, isV (α := Int) p2), (24, isV (α := Int) p3), (25, isV (α := List Int) ([p2, p3] : List Int)), (26, isV (α := S_keeper_numbers) ((([p2, p3] : List Int), []) : S_keeper_numbers)), (27, isV (α := Int) v_1), (28, isV (α := Int) v_1), (29, isV (α := Bool) (v_1 != 0))]) ⟨od rfl, od rfl, od rfl, od rfl, od rfl, od rfl, od rfl, od rfl, od rfl, od rfl, od rfl, od rfl, od rfl, od rfl, od rfl, od rfl, od rfl, od rfl, od rfl, trivial⟩
    refine st_pairs mixed [0, 0, 0, 0, 3, 4] [⟨4, 5, 12, 112, List (List Int), inferInstance, ([] : List (List Int)), v_5⟩] (by kernel_rfl) (by kernel_rfl) hS ⟨fun _ _ _ _ h => h, fun _ _ _ _ h => h, fun _ _ _ _ h => h, fun _ _ _ _ h => h, fun _ _ _ _ h => h, fun _ _ _ _ h => h, fun _ _ _ _ h => h, fun _ _ _ _ h => h, fun _ _ _ _ h => h, fun _ _ _ _ h => h, fun _ _ _ _ h => h, fun _ _ _ _ h => h, fun _ _ _ _ h => h, fun _ _ _ _ h => h, fun _ _ _ _ h => h, fun _ _ _ _ h => h, fun _ _ _ _ h => h, fun _ _ _ _ h => h, fun _ _ _ _ h => h, trivial⟩ ?_
    refine sq0 (fun _ _ _ _ h => h) (sg (sp_load ty24 (od rfl))) ?_
    refine sq0 (fun _ _ _ _ h => h) (sg (sp_move (od rfl))) ?_
    refine sq0 (fun _ _ _ _ h => h) (sg (sp_call en92 (f92_ok e_4) ⟨od rfl, trivial⟩)) ?_
    refine sq0 (fun _ _ _ _ h => h) (sg (sp_call en83 (f83_ok e_6) ⟨od rfl, od rfl, trivial⟩)) ?_
    refine sqA 0 rfl zi112 ?_
    refine sqS 0 rfl ty112 (od rfl) ?_
    refine sqN fun a w bs hl hS => ?_
    obtain ⟨b_7, rfl⟩ := len1 hl
    have hS : St _ F0 [Item.box (α := List (List Int)) 112 b_7 (v_5 : List (List Int))] ((12, Pr.ptr b_7) :: _) w0 _ _ := hS
    have hS := st_freezeB 0 12 hS rfl rfl
    refine exit_then ?_
    refine wp_seq ?_
    refine wp_seq ?_
    obtain ⟨v_8, e_9, h⟩ := bind_some h
    obtain ⟨v_10, e_11, h⟩ := bind_some h
    refine st_reg mixed (by kernel_rfl) hS ?_
    refine sc (sg (sp_load ty112 (od rfl))) ?_
    refine sc (sg (sp_load ty3 (od rfl))) ?_
    refine sc (sg (sp_indexAddr sl112 (od rfl) (od rfl) e_9)) ?_
    refine sc (sg (sp_load ty27 (od rfl))) ?_
    refine sc (sg (sp_move (od rfl))) ?_
    refine sc (sg (sp_indexAddr sl27 (od rfl) (od rfl) e_11)) ?_
    refine sc (sg (sp_load ty3 (od rfl))) ?_
    refine sc (sg (sp_geq (od rfl) (odi))) ?_
    refine sn fun a w hS => ?_
    refine exit_then ?_
    refine st_cond hS rfl (fun hb => ?_) (fun hb => ?_)
    · have h := ite_t hb h
      refine wp_seq ?_
      refine st_reg mixed (by kernel_rfl) hS ?_
      refine sc (sg (sp_assign (odnil (α := S_api_Span)))) ?_
      refine sc (sg (sp_assign (odnil (α := S_api_Span)))) ?_
      refine sc (sg (sp_assign (odi))) ?_
      refine sn fun a w hS => ?_
      refine exit_then ?_
      refine wp_ret ?_
      refine exit_thenR ?_
      cases h
      exact st_ret hS (run_results3 Try.results63 a w) (⟨_, rfl, hS.get rfl, hS.get rfl, hS.get rfl, trivial⟩)
    · have h := ite_f hb h
      refine wp_skip ?_
      refine exit_then ?_
      refine wp_seq ?_
      refine l_start ?_
      refine s_c hS (sg (mk_fn122 (f := (fun x0 => M.f111 x0 (v_5 : List (List Int)) p2)) (κs := [isA (α := List (List Int)) (v_5 : List (List Int)), isA (α := Int) p2]) ⟨fun _ _ _ _ h => h, fun _ _ _ _ h => h, trivial⟩ en111 ⟨od rfl, od rfl, trivial⟩ (fun _ _ h => f111_ok h))) rfl fun a w hS hM => ?_
      refine s_allocStore ze122 hS (od rfl) (fun k hk => by cases hk; rfl) rfl fun a w hS hM => ?_
      refine l_end ?_
      refine exit_then ?_
      refine wp_seq ?_
      refine st_reg mixed (by kernel_rfl) hS ?_
      refine sc (sg (mk_fn91 (f := (fun x0 => M.f112 x0 ((fun x0 => M.f111 x0 (v_5 : List (List Int)) p2) : (Int → Option Int)))) (κs := [isA (α := (Int → Option Int)) ((fun x0 => M.f111 x0 (v_5 : List (List Int)) p2) : (Int → Option Int))]) ⟨fun _ _ _ _ h => h, trivial⟩ en112 ⟨od rfl, trivial⟩ (fun _ _ h => f112_ok h))) ?_
      refine sc (sg (sp_assign (od rfl))) ?_
      refine sn fun a w hS => ?_
      refine exit_then ?_
      refine wp_seq ?_
      refine st_reg mixed (by kernel_rfl) hS ?_
      refine sc (sg (sp_assign (φ := Pr.is (.slice none 0 0)) (odc fun _ => rfl))) ?_
      refine sc (sg (sp_assign (φ := Pr.is (.slice none 0 0)) (odc fun _ => rfl))) ?_
      refine sn fun a w hS => ?_
      have hS := st_nil (α := S_api_Span) 82 hS
      have hS : St _ F0 [Item.sl (α := S_api_Span) 82 (.slice none 0 0) ([] : List S_api_Span)] _ w0 _ _ := hS
      have hS := st_nil (α := S_api_Span) 82 hS
      have hS : St _ F0 [Item.sl (α := S_api_Span) 82 (.slice none 0 0) ([] : List S_api_Span), Item.sl (α := S_api_Span) 82 (.slice none 0 0) ([] : List S_api_Span)] _ w0 _ _ := hS
      refine exit_then ?_
      refine wp_seq ?_
      refine wp_seq ?_
      refine st_reg mixed (by kernel_rfl) hS ?_
      refine sc (sg (sp_fieldAddr fd24_1 (od rfl))) ?_
      refine sc (sg (sp_load ty22 (od rfl))) ?_
      refine sc (sg (sp_len Try.underlying22 (od rfl))) ?_
      refine sc (sg (sp_move (odi))) ?_
      refine sn fun a w hS => ?_
      refine exit_then ?_
      refine wp_block ?_
      obtain ⟨o_15, e_16, hr_17⟩ := bind_some h
      refine c_loop (fun K a w => ∃ k i_12 s_14, ∃ u_18 : Value, K = k + 1 ∧ ForT _ _ _ o_15 k i_12 s_14 ∧ St 78 F0 [Item.sl (α := S_api_Span) 82 u_18 s_14, Item.sl (α := S_api_Span) 82 (.slice none 0 0) ([] : List S_api_Span)] [(1, isV (α := List Int) p1), (4, isA (α := S_api_Market) p0), (14, isV (α := (S_api_Offer → Option S_api_Span)) ((fun x0 => M.f112 x0 ((fun x0 => M.f111 x0 (v_5 : List (List Int)) p2) : (Int → Option Int))) : (S_api_Offer → Option S_api_Span))), (15, Pr.is u_18), (16, Pr.is (.slice none 0 0)), (46, isV (α := List S_api_Offer) p0.2.1), (47, isV (α := Int) (p0.2.1.length : Int)), (48, isV (α := Int) i_12)] w0 a w) ?_ ?_ ⟨_, _, _, (.slice none 0 0), rfl, fors_init e_16, hS.weak ⟨od rfl, od rfl, od rfl, od rfl, od rfl, od rfl, od rfl, od rfl, trivial⟩⟩
      · rintro a w ⟨_, _, _, _, hk, _⟩; cases hk
      rintro K a w ⟨k_15, i_12, s_14, u_18, hk, hF_15, hS⟩
      obtain rfl := Nat.succ.inj hk
      refine wp_seq ?_
      refine st_reg mixed (by kernel_rfl) hS ?_
      refine sc (sg (sp_lss (od rfl) (od rfl))) ?_
      refine sn fun a w hS => ?_
      refine exit_then ?_
      refine wp_seq ?_
      refine st_cond hS rfl (fun hb => ?_) (fun hb => ?_)
      · refine wp_skip ?_
        refine exit_then ?_
        obtain ⟨k_15, s', rfl, h, hF_15, hw_15⟩ := fors_more hF_15 hb
        refine wp_seq ?_
        refine wp_block ?_
        refine wp_seq ?_
        obtain ⟨v_19, e_20, h⟩ := bind_some h
        refine l_start ?_
        refine s_c hS (sg (sp_indexAddr sl22 (od rfl) (od rfl) e_20)) rfl fun a w hS hM => ?_
        refine s_c hS (sg (sp_load ty59 (od rfl))) rfl fun a w hS hM => ?_
        refine s_allocStore ze59 hS (od rfl) (fun k hk => by cases hk; rfl) rfl fun a w hS hM => ?_
        refine l_end ?_
        refine exit_then ?_
        obtain ⟨v_21, e_22, h⟩ := bind_some h
        obtain ⟨z_23, e_24, h⟩ := bind_some h
        refine l_start ?_
        refine s_c hS (sg (sp_move (od rfl))) rfl fun a w hS hM => ?_
        refine s_c hS (sg (sp_move (od rfl))) rfl fun a w hS hM => ?_
        refine s_c hS (sg (sp_load ty59 (od rfl))) rfl fun a w hS hM => ?_
        refine s_c hS (sg (sp_callV (od_fn91 (od rfl)) ⟨od rfl, trivial⟩ e_22)) rfl fun a w hS hM => ?_
        refine s_c hS (sg (sp_buildSlice [.tmp 55] ([v_21] : List S_api_Span) sl80 ze82 rfl rfl rfl rfl ⟨od rfl, trivial⟩)) rfl fun a w hS hM => ?_
        refine s_append (k := 0) (Δ := [(1, isV (α := List Int) p1), (4, isA (α := S_api_Market) p0), (14, isV (α := (S_api_Offer → Option S_api_Span)) ((fun x0 => M.f112 x0 ((fun x0 => M.f111 x0 (v_5 : List (List Int)) p2) : (Int → Option Int))) : (S_api_Offer → Option S_api_Span))), (16, Pr.is (.slice none 0 0)), (46, isV (α := List S_api_Offer) p0.2.1), (47, isV (α := Int) (p0.2.1.length : Int)), (48, isV (α := Int) i_12), (52, Pr.is u_18), (56, isV (α := List S_api_Span) ([v_21] : List S_api_Span))]) sl80 ze82 hS rfl ⟨od rfl, od rfl, od rfl, od rfl, od rfl, od rfl, od rfl, od rfl, od rfl, trivial⟩ ⟨fun _ _ _ _ h => h, fun _ _ _ _ h => h, fun _ _ _ _ h => h, fun _ _ _ _ h => h, fun _ _ _ _ h => h, fun _ _ _ _ h => h, fun _ _ _ _ h => h, fun _ _ _ _ h => h, fun _ _ _ _ h => h, trivial⟩ (od rfl) (od rfl) e_24 rfl fun a w u_25 hS hM => ?_
        have hS : St _ F0 [Item.sl (α := S_api_Span) 82 u_25 z_23, Item.sl (α := S_api_Span) 82 (.slice none 0 0) ([] : List S_api_Span)] _ w0 _ _ := hS
        refine s_c hS (sg (sp_assign (od rfl))) rfl fun a w hS hM => ?_
        refine l_end ?_
        refine exit_block ?_
        refine exit_then ?_
        refine st_reg mixed (by kernel_rfl) hS ?_
        refine sc (sg (sp_add (od rfl) (odi))) ?_
        refine sc (sg (sp_move (od rfl))) ?_
        refine sn fun a w hS => ?_
        cases h
        exact ⟨k_15, _, _, u_25, rfl, hF_15, hS.weak ⟨od rfl, od rfl, od rfl, od rfl, od rfl, od rfl, od rfl, od (congrArg (fun z => some (isV (α := Int) z)) hw_15), trivial⟩⟩
      · refine wp_exit ?_
        obtain rfl := (fors_done hF_15 hb).symm
        have h := hr_17
        refine exit_thenE ?_
        refine exit_thenE ?_
        refine exit_here ?_
        refine exit_then ?_
        refine wp_seq ?_
        refine wp_seq ?_
        refine st_reg mixed (by kernel_rfl) hS ?_
        refine sc (sg (sp_move (od rfl))) ?_
        refine sc (sg (sp_len Try.underlying27 (od rfl))) ?_
        refine sc (sg (sp_move (odi))) ?_
        refine sn fun a w hS => ?_
        refine exit_then ?_
        refine wp_block ?_
        obtain ⟨o_29, e_30, hr_31⟩ := bind_some h
        refine c_loop (fun K a w => ∃ k i_26 s_28, ∃ u_32 : Value, K = k + 1 ∧ ForT _ _ _ o_29 k i_26 s_28 ∧ St 78 F0 [Item.sl (α := S_api_Span) 82 u_18 s_14, Item.sl (α := S_api_Span) 82 u_32 s_28] [(4, isA (α := S_api_Market) p0), (14, isV (α := (S_api_Offer → Option S_api_Span)) ((fun x0 => M.f112 x0 ((fun x0 => M.f111 x0 (v_5 : List (List Int)) p2) : (Int → Option Int))) : (S_api_Offer → Option S_api_Span))), (15, Pr.is u_18), (16, Pr.is u_32), (59, isV (α := List Int) p1), (60, isV (α := Int) (p1.length : Int)), (61, isV (α := Int) i_26)] w0 a w) ?_ ?_ ⟨_, _, _, (.slice none 0 0), rfl, fors_init e_30, hS.weak ⟨od rfl, od rfl, od rfl, od rfl, od rfl, od rfl, od rfl, trivial⟩⟩
        · rintro a w ⟨_, _, _, _, hk, _⟩; cases hk
        rintro K a w ⟨k_29, i_26, s_28, u_32, hk, hF_29, hS⟩
        obtain rfl := Nat.succ.inj hk
        refine wp_seq ?_
        refine st_reg mixed (by kernel_rfl) hS ?_
        refine sc (sg (sp_lss (od rfl) (od rfl))) ?_
        refine sn fun a w hS => ?_
        refine exit_then ?_
        refine wp_seq ?_
        refine st_cond hS rfl (fun hb => ?_) (fun hb => ?_)
        · refine wp_skip ?_
          refine exit_then ?_
          obtain ⟨k_29, s', rfl, h, hF_29, hw_29⟩ := fors_more hF_29 hb
          refine wp_seq ?_
          refine wp_block ?_
          refine wp_seq ?_
          obtain ⟨v_33, e_34, h⟩ := bind_some h
          refine st_reg mixed (by kernel_rfl) hS ?_
          refine sc (sg (sp_indexAddr sl27 (od rfl) (od rfl) e_34)) ?_
          refine sc (sg (sp_load ty3 (od rfl))) ?_
          refine sc (sg (sp_assign (od rfl))) ?_
          refine sn fun a w hS => ?_
          refine exit_then ?_
          obtain ⟨v_35, e_36, h⟩ := bind_some h
          obtain ⟨v_37, e_38, h⟩ := bind_some h
          obtain ⟨z_39, e_40, h⟩ := bind_some h
          refine l_start ?_
          refine s_c hS (sg (sp_move (od rfl))) rfl fun a w hS hM => ?_
          refine s_c hS (sg (sp_move (od rfl))) rfl fun a w hS hM => ?_
          refine s_c hS (sg (sp_fieldAddr fd24_2 (od rfl))) rfl fun a w hS hM => ?_
          refine s_c hS (sg (sp_load ty22 (od rfl))) rfl fun a w hS hM => ?_
          refine s_c hS (sg (sp_move (od rfl))) rfl fun a w hS hM => ?_
          refine s_c hS (sg (sp_indexAddr sl22 (od rfl) (od rfl) e_36)) rfl fun a w hS hM => ?_
          refine s_c hS (sg (sp_load ty59 (od rfl))) rfl fun a w hS hM => ?_
          refine s_c hS (sg (sp_callV (od_fn91 (od rfl)) ⟨od rfl, trivial⟩ e_38)) rfl fun a w hS hM => ?_
          refine s_c hS (sg (sp_buildSlice [.tmp 72] ([v_37] : List S_api_Span) sl80 ze82 rfl rfl rfl rfl ⟨od rfl, trivial⟩)) rfl fun a w hS hM => ?_
          refine s_append (k := 1) (Δ := [(4, isA (α := S_api_Market) p0), (14, isV (α := (S_api_Offer → Option S_api_Span)) ((fun x0 => M.f112 x0 ((fun x0 => M.f111 x0 (v_5 : List (List Int)) p2) : (Int → Option Int))) : (S_api_Offer → Option S_api_Span))), (15, Pr.is u_18), (59, isV (α := List Int) p1), (60, isV (α := Int) (p1.length : Int)), (61, isV (α := Int) i_26), (65, Pr.is u_32), (73, isV (α := List S_api_Span) ([v_37] : List S_api_Span))]) sl80 ze82 hS rfl ⟨od rfl, od rfl, od rfl, od rfl, od rfl, od rfl, od rfl, od rfl, trivial⟩ ⟨fun _ _ _ _ h => h, fun _ _ _ _ h => h, fun _ _ _ _ h => h, fun _ _ _ _ h => h, fun _ _ _ _ h => h, fun _ _ _ _ h => h, fun _ _ _ _ h => h, fun _ _ _ _ h => h, trivial⟩ (od rfl) (od rfl) e_40 rfl fun a w u_41 hS hM => ?_
          have hS : St _ F0 [Item.sl (α := S_api_Span) 82 u_18 s_14, Item.sl (α := S_api_Span) 82 u_41 z_39] _ w0 _ _ := hS
          refine s_c hS (sg (sp_assign (od rfl))) rfl fun a w hS hM => ?_
          refine l_end ?_
          refine exit_block ?_
          refine exit_then ?_
          refine st_reg mixed (by kernel_rfl) hS ?_
          refine sc (sg (sp_add (od rfl) (odi))) ?_
          refine sc (sg (sp_move (od rfl))) ?_
          refine sn fun a w hS => ?_
          cases h
          exact ⟨k_29, _, _, u_41, rfl, hF_29, hS.weak ⟨od rfl, od rfl, od rfl, od rfl, od rfl, od rfl, od (congrArg (fun z => some (isV (α := Int) z)) hw_29), trivial⟩⟩
        · refine wp_exit ?_
          obtain rfl := (fors_done hF_29 hb).symm
          have h := hr_31
          refine exit_thenE ?_
          refine exit_thenE ?_
          refine exit_here ?_
          refine exit_then ?_
          refine wp_seq ?_
          refine st_reg mixed (by kernel_rfl) hS ?_
          refine sc (sg (sp_move (od rfl))) ?_
          refine sc (sg (sp_move (od rfl))) ?_
          refine sc (sg (sp_assign (od rfl))) ?_
          refine sc (sg (sp_assign (od rfl))) ?_
          refine sc (sg (sp_assign (odi))) ?_
          refine sn fun a w hS => ?_
          refine exit_then ?_
          refine wp_ret ?_
          have hS0 := hS
          have hS := st_freeze 0 8 hS rfl rfl
          have hS := st_also (t := 8) (q := 15) hS0 hS rfl rfl rfl
          have hS := st_also (t := 8) (q := 76) hS0 hS rfl rfl rfl
          have hS0 := hS
          have hS := st_freeze 0 9 hS rfl rfl
          have hS := st_also (t := 9) (q := 16) hS0 hS rfl rfl rfl
          have hS := st_also (t := 9) (q := 77) hS0 hS rfl rfl rfl
          cases h
          exact st_ret hS (run_results3 Try.results63 a w) (⟨_, rfl, hS.get rfl, hS.get rfl, hS.get rfl, trivial⟩)

theorem f13_ok {fuel : Nat} {p0 : S_api_Market} {p1 : List Int} {p2 : Int} {p3 : Int} {p4 : List S_api_Span} {p5 : List S_api_Span} {r : Bool} (h : M.f13 fuel p0 p1 p2 p3 p4 p5 = some r) : CallOK Try.prog 13 [isV p0, isV p1, isV p2, isV p3, isV p4, isV p5] (isV r) := by
  unfold M.f13 at h
  refine callS_of Try.func13 rfl Try.ntmps13 rfl fun F0 w0 a hS => ?_
  refine wp_seq ?_
  refine st_reg mixed (by kernel_rfl) hS ?_
  refine sc (sg (sp_box (od rfl))) ?_
  refine sc (sg (sp_assign (odb))) ?_
  refine sn fun a w hS => ?_
  refine exit_then ?_
  refine wp_seq ?_
  refine wp_seq ?_
  obtain ⟨v_1, e_2, h⟩ := bind_some h
  refine st_reg mixed (by kernel_rfl) hS ?_
  refine sc (sg (sp_call en16 (f16_ok e_2) trivial)) ?_
  refine sc (sg (sp_not (od rfl))) ?_
  refine sn fun a w hS => ?_
  refine exit_then ?_
  refine st_cond hS rfl (fun hb => ?_) (fun hb => ?_)
  · have h := ite_t hb h
    refine wp_seq ?_
    refine st_reg mixed (by kernel_rfl) hS ?_
    refine sc (sg (sp_assign (odb))) ?_
    refine sn fun a w hS => ?_
    refine exit_then ?_
    refine wp_ret ?_
    refine exit_thenR ?_
    cases h
    exact st_ret hS (run_results1 Try.results13 a w) (hS.get rfl)
  · have h := ite_f hb h
    refine wp_skip ?_
    refine exit_then ?_
    refine wp_seq ?_
    refine wp_seq ?_
    obtain ⟨v_3, e_4, h⟩ := bind_some h
    obtain ⟨v_5, e_6, h⟩ := bind_some h
    refine st_reg mixed (by kernel_rfl) hS ?_
    refine sc (sg (sp_load ty24 (od rfl))) ?_
    refine sc (sg (sp_call en17 (f17_ok e_4) ⟨od rfl, trivial⟩)) ?_
    refine sc (sg (sp_not (od rfl))) ?_
    refine sc (sg (sp_move (od rfl))) ?_
    refine sc (sgF rfl fun hG => sp_move (od rfl)) ?_
    refine sc (sgF rfl fun hG => sp_buildSlice [.tmp 32] ([p1] : List (List Int)) sl75 ze27 rfl rfl rfl rfl ⟨odw rfl hG, trivial⟩) ?_
    refine sc (sgF rfl fun hG => sp_call en55 (f55_ok (guard_some e_6 hG)) ⟨odw rfl hG, trivial⟩) ?_
    refine sc (sgF rfl fun hG => sp_not (odw rfl hG)) ?_
    refine sc (sg (sp_pickOr (od rfl) fun hg => odw rfl (not_t hg))) ?_
    refine sc (sg (sp_move (od rfl))) ?_
    refine sc (sgF rfl fun hG => sp_move (od rfl)) ?_
    refine sc (sgF rfl fun hG => sp_len Try.underlying80 (odw rfl hG)) ?_
    refine sc (sgF rfl fun hG => sp_gtr (odw rfl hG) (odi)) ?_
    refine sc (sg (sp_pickOr (od rfl) fun hg => odw rfl (not_t hg))) ?_
    refine sc (sg (sp_move (od rfl))) ?_
    refine sc (sgF rfl fun hG => sp_move (od rfl)) ?_
    refine sc (sgF rfl fun hG => sp_len Try.underlying80 (odw rfl hG)) ?_
    refine sc (sgF rfl fun hG => sp_gtr (odw rfl hG) (odi)) ?_
    refine sc (sg (sp_pickOr (od rfl) fun hg => odw rfl (not_t hg))) ?_
    refine sn fun a w hS => ?_
    refine exit_then ?_
    refine st_cond hS rfl (fun hb => ?_) (fun hb => ?_)
    · have h := ite_t hb h
      refine wp_seq ?_
      refine st_reg mixed (by kernel_rfl) hS ?_
      refine sc (sg (sp_assign (odb))) ?_
      refine sn fun a w hS => ?_
      refine exit_then ?_
      refine wp_ret ?_
      refine exit_thenR ?_
      cases h
      exact st_ret hS (run_results1 Try.results13 a w) (hS.get rfl)
    · have h := ite_f hb h
      refine wp_skip ?_
      refine exit_then ?_
      refine wp_seq ?_
      obtain ⟨v_7, e_8, h⟩ := bind_some h
      refine l_start ?_
      refine s_c hS (sg (sp_load ty24 (od rfl))) rfl fun a w hS hM => ?_
      refine s_c hS (sg (sp_move (od rfl))) rfl fun a w hS hM => ?_
      refine s_c hS (sg (sp_move (od rfl))) rfl fun a w hS hM => ?_
      refine s_c hS (sg (sp_move (od rfl))) rfl fun a w hS hM => ?_
      refine s_c hS (sg (sp_move (od rfl))) rfl fun a w hS hM => ?_
      refine s_c hS (sg (sp_move (od rfl))) rfl fun a w hS hM => ?_
      refine s_c hS (sg (sp_call en61 (f61_ok e_8) ⟨od rfl, od rfl, od rfl, od rfl, od rfl, od rfl, trivial⟩)) rfl fun a w hS hM => ?_
      refine s_c hS (sg (sp_move (od rfl))) rfl fun a w hS hM => ?_
      refine s_c hS (sg (sp_extract (od rfl) rfl)) rfl fun a w hS hM => ?_
      refine s_c hS (sg (sp_extract (od rfl) rfl)) rfl fun a w hS hM => ?_
      refine s_c hS (sg (sp_extract (od rfl) rfl)) rfl fun a w hS hM => ?_
      refine s_allocStore ze82 hS (od rfl) (fun k hk => by cases hk; rfl) rfl fun a w hS hM => ?_
      refine s_c hS (sg (sp_assign (od rfl))) rfl fun a w hS hM => ?_
      refine s_c hS (sg (sp_assign (od rfl))) rfl fun a w hS hM => ?_
      refine l_end ?_
      refine exit_then ?_
      refine wp_seq ?_
      obtain ⟨v_9, e_10, h⟩ := bind_some h
      refine l_start ?_
      refine s_c hS (sg (sp_load ty24 (od rfl))) rfl fun a w hS hM => ?_
      refine s_c hS (sg (sp_move (od rfl))) rfl fun a w hS hM => ?_
      refine s_c hS (sg (sp_move (od rfl))) rfl fun a w hS hM => ?_
      refine s_c hS (sg (sp_move (od rfl))) rfl fun a w hS hM => ?_
      refine s_c hS (sg (sp_move (od rfl))) rfl fun a w hS hM => ?_
      refine s_c hS (sg (sp_move (od rfl))) rfl fun a w hS hM => ?_
      refine s_c hS (sg (sp_call en62 (f62_ok e_10) ⟨od rfl, od rfl, od rfl, od rfl, od rfl, od rfl, trivial⟩)) rfl fun a w hS hM => ?_
      refine s_c hS (sg (sp_move (od rfl))) rfl fun a w hS hM => ?_
      refine s_c hS (sg (sp_extract (od rfl) rfl)) rfl fun a w hS hM => ?_
      refine s_c hS (sg (sp_extract (od rfl) rfl)) rfl fun a w hS hM => ?_
      refine s_c hS (sg (sp_extract (od rfl) rfl)) rfl fun a w hS hM => ?_
      refine s_allocStore ze82 hS (od rfl) (fun k hk => by cases hk; rfl) rfl fun a w hS hM => ?_
      refine s_c hS (sg (sp_assign (od rfl))) rfl fun a w hS hM => ?_
      refine s_c hS (sg (sp_assign (od rfl))) rfl fun a w hS hM => ?_
      refine l_end ?_
      refine exit_then ?_
      refine wp_seq ?_
      refine wp_seq ?_
      refine st_reg mixed (by kernel_rfl) hS ?_
      refine sc (sg (sp_load ty82 (od rfl))) ?_
      refine sc (sg (sp_load ty82 (od rfl))) ?_
      refine sc (sg (sp_neqS eq82 rfl eg82 rfl (od rfl) (od rfl))) ?_
      refine sc (sg (sp_move (od rfl))) ?_
      refine sc (sgF rfl fun hG => sp_move (od rfl)) ?_
      refine sc (sgF rfl fun hG => sp_move (od rfl)) ?_
      refine sc (sgF rfl fun hG => sp_neqB Try.underlying4 (odw rfl hG) (odw rfl hG)) ?_
      refine sc (sg (sp_pickOr (od rfl) fun hg => odw rfl (not_t hg))) ?_
      refine sc (sg (sp_move (od rfl))) ?_
      refine sc (sgF rfl fun hG => sp_move (od rfl)) ?_
      refine sc (sgF rfl fun hG => sp_move (od rfl)) ?_
      refine sc (sgF rfl fun hG => sp_neq (odw rfl hG) (odw rfl hG)) ?_
      refine sc (sg (sp_pickOr (od rfl) fun hg => odw rfl (not_t hg))) ?_
      refine sn fun a w hS => ?_
      refine exit_then ?_
      refine st_cond hS rfl (fun hb => ?_) (fun hb => ?_)
      · have h := ite_t hb h
        refine wp_seq ?_
        refine st_reg mixed (by kernel_rfl) hS ?_
        refine sc (sg (sp_assign (odb))) ?_
        refine sn fun a w hS => ?_
        refine exit_then ?_
        refine wp_ret ?_
        refine exit_thenR ?_
        cases h
        exact st_ret hS (run_results1 Try.results13 a w) (hS.get rfl)
      · have h := ite_f hb h
        refine wp_skip ?_
        refine exit_then ?_
        refine wp_seq ?_
        obtain ⟨v_11, e_12, h⟩ := bind_some h
        refine st_reg mixed (by kernel_rfl) hS ?_
        refine sc (sg (sp_load ty24 (od rfl))) ?_
        refine sc (sg (sp_move (od rfl))) ?_
        refine sc (sg (sp_move (od rfl))) ?_
        refine sc (sg (sp_move (od rfl))) ?_
        refine sc (sg (sp_call en63 (f63_ok e_12) ⟨od rfl, od rfl, od rfl, od rfl, trivial⟩)) ?_
        refine sc (sg (sp_move (od rfl))) ?_
        refine sc (sg (sp_extract (od rfl) rfl)) ?_
        refine sc (sg (sp_extract (od rfl) rfl)) ?_
        refine sc (sg (sp_extract (od rfl) rfl)) ?_
        refine sc (sg (sp_assign (od rfl))) ?_
        refine sc (sg (sp_assign (od rfl))) ?_
        refine sc (sg (sp_assign (od rfl))) ?_
        refine sn fun a w hS => ?_
        refine exit_then ?_
        refine wp_seq ?_
        obtain ⟨v_13, e_14, h⟩ := bind_some h
        refine st_reg mixed (by kernel_rfl) hS ?_
        refine sc (sg (sp_load ty24 (od rfl))) ?_
        refine sc (sg (sp_move (od rfl))) ?_
        refine sc (sg (sp_move (od rfl))) ?_
        refine sc (sg (sp_move (od rfl))) ?_
        refine sc (sg (sp_call en56 (f56_ok e_14) ⟨od rfl, od rfl, od rfl, od rfl, trivial⟩)) ?_
        refine sc (sg (sp_move (od rfl))) ?_
        refine sc (sg (sp_extract (od rfl) rfl)) ?_
        refine sc (sg (sp_extract (od rfl) rfl)) ?_
        refine sc (sg (sp_extract (od rfl) rfl)) ?_
        refine sc (sg (sp_assign (od rfl))) ?_
        refine sc (sg (sp_assign (od rfl))) ?_
        refine sc (sg (sp_assign (od rfl))) ?_
        refine sn fun a w hS => ?_
        refine exit_then ?_
        refine wp_seq ?_
        refine wp_seq ?_
        refine st_reg mixed (by kernel_rfl) hS ?_
        refine sc (sg (sp_move (od rfl))) ?_
        refine sc (sg (sp_neq (od rfl) (odi))) ?_
        refine sn fun a w hS => ?_
        refine exit_then ?_
        refine st_cond hS rfl (fun hb => ?_) (fun hb => ?_)
        · have h := ite_t hb h
          refine wp_seq ?_
          refine st_reg mixed (by kernel_rfl) hS ?_
          refine sc (sg (sp_move (od rfl))) ?_
          refine sc (sg (sp_move (od rfl))) ?_
          refine sc (sg (sp_eql (od rfl) (od rfl))) ?_
          refine sc (sg (sp_move (od rfl))) ?_
          refine sc (sgT rfl fun hG => sp_move (od rfl)) ?_
          refine sc (sgT rfl fun hG => sp_len Try.underlying80 (odw rfl hG)) ?_
          refine sc (sgT rfl fun hG => sp_eql (odw rfl hG) (odi)) ?_
          refine sc (sg (sp_pickAnd (od rfl) fun hg => odw rfl hg)) ?_
          refine sc (sg (sp_move (od rfl))) ?_
          refine sc (sgT rfl fun hG => sp_move (od rfl)) ?_
          refine sc (sgT rfl fun hG => sp_len Try.underlying80 (odw rfl hG)) ?_
          refine sc (sgT rfl fun hG => sp_eql (odw rfl hG) (odi)) ?_
          refine sc (sg (sp_pickAnd (od rfl) fun hg => odw rfl hg)) ?_
          refine sc (sg (sp_assign (od rfl))) ?_
          refine sn fun a w hS => ?_
          refine exit_then ?_
          refine wp_ret ?_
          refine exit_thenR ?_
          cases h
          exact st_ret hS (run_results1 Try.results13 a w) (hS.get rfl)
        · have h := ite_f hb h
          refine wp_skip ?_
          refine exit_then ?_
          refine wp_seq ?_
          refine wp_seq ?_
          refine st_reg mixed (by kernel_rfl) hS ?_
          refine sc (sg (sp_move (od rfl))) ?_
          refine sc (sg (sp_not (od rfl))) ?_
          refine sn fun a w hS => ?_
          refine exit_then ?_
          refine st_cond hS rfl (fun hb => ?_) (fun hb => ?_)
          · have h := ite_t hb h
            refine wp_seq ?_
            refine st_reg mixed (by kernel_rfl) hS ?_
            refine sc (sg (sp_move (od rfl))) ?_
            refine sc (sg (sp_eql (od rfl) (odi))) ?_
            refine sc (sg (sp_move (od rfl))) ?_
            refine sc (sgT rfl fun hG => sp_move (od rfl)) ?_
            refine sc (sgT rfl fun hG => sp_len Try.underlying80 (odw rfl hG)) ?_
            refine sc (sgT rfl fun hG => sp_eql (odw rfl hG) (odi)) ?_
            refine sc (sg (sp_pickAnd (od rfl) fun hg => odw rfl hg)) ?_
            refine sc (sg (sp_move (od rfl))) ?_
            refine sc (sgT rfl fun hG => sp_move (od rfl)) ?_
            refine sc (sgT rfl fun hG => sp_len Try.underlying80 (odw rfl hG)) ?_
            refine sc (sgT rfl fun hG => sp_eql (odw rfl hG) (odi)) ?_
            refine sc (sg (sp_pickAnd (od rfl) fun hg => odw rfl hg)) ?_
            refine sc (sg (sp_assign (od rfl))) ?_
            refine sn fun a w hS => ?_
            refine exit_then ?_
            refine wp_ret ?_
            refine exit_thenR ?_
            cases h
            exact st_ret hS (run_results1 Try.results13 a w) (hS.get rfl)
          · have h := ite_f hb h
            refine wp_skip ?_
            refine exit_then ?_
            refine wp_seq ?_
            refine wp_seq ?_
            refine st_reg mixed (by kernel_rfl) hS ?_
            refine sc (sg (sp_move (od rfl))) ?_
            refine sc (sg (sp_neq (od rfl) (odi))) ?_
            refine sc (sg (sp_move (od rfl))) ?_
            refine sc (sgF rfl fun hG => sp_move (od rfl)) ?_
            refine sc (sgF rfl fun hG => sp_len Try.underlying80 (odw rfl hG)) ?_
            refine sc (sgF rfl fun hG => sp_gtr (odw rfl hG) (odi)) ?_
            refine sc (sg (sp_pickOr (od rfl) fun hg => odw rfl (not_t hg))) ?_
            refine sc (sg (sp_move (od rfl))) ?_
            refine sc (sgF rfl fun hG => sp_move (od rfl)) ?_
            refine sc (sgF rfl fun hG => sp_len Try.underlying80 (odw rfl hG)) ?_
            refine sc (sgF rfl fun hG => sp_gtr (odw rfl hG) (odi)) ?_
            refine sc (sg (sp_pickOr (od rfl) fun hg => odw rfl (not_t hg))) ?_
            refine sn fun a w hS => ?_
            refine exit_then ?_
            refine st_cond hS rfl (fun hb => ?_) (fun hb => ?_)
            · have h := ite_t hb h
              refine wp_seq ?_
              refine st_reg mixed (by kernel_rfl) hS ?_
              refine sc (sg (sp_assign (odb))) ?_
              refine sn fun a w hS => ?_
              refine exit_then ?_
              refine wp_ret ?_
              refine exit_thenR ?_
              cases h
              exact st_ret hS (run_results1 Try.results13 a w) (hS.get rfl)
            · have h := ite_f hb h
              refine wp_skip ?_
              refine exit_then ?_
              refine wp_seq ?_
              obtain ⟨v_15, e_16, h⟩ := bind_some h
              refine l_start ?_
              refine s_c hS (sg (sp_load ty24 (od rfl))) rfl fun a w hS hM => ?_
              refine s_c hS (sg (sp_move (od rfl))) rfl fun a w hS hM => ?_
              refine s_c hS (sg (sp_move (od rfl))) rfl fun a w hS hM => ?_
              refine s_c hS (sg (sp_move (od rfl))) rfl fun a w hS hM => ?_
              refine s_c hS (sg (sp_move (od rfl))) rfl fun a w hS hM => ?_
              refine s_c hS (sg (sp_move (od rfl))) rfl fun a w hS hM => ?_
              refine s_c hS (sg (sp_call en62 (f62_ok e_16) ⟨od rfl, od rfl, od rfl, od rfl, od rfl, od rfl, trivial⟩)) rfl fun a w hS hM => ?_
              refine s_c hS (sg (sp_move (od rfl))) rfl fun a w hS hM => ?_
              refine s_c hS (sg (sp_extract (od rfl) rfl)) rfl fun a w hS hM => ?_
              refine s_c hS (sg (sp_extract (od rfl) rfl)) rfl fun a w hS hM => ?_
              refine s_c hS (sg (sp_extract (od rfl) rfl)) rfl fun a w hS hM => ?_
              refine s_allocStore ze82 hS (od rfl) (fun k hk => by cases hk; rfl) rfl fun a w hS hM => ?_
              refine s_c hS (sg (sp_assign (od rfl))) rfl fun a w hS hM => ?_
              refine s_c hS (sg (sp_assign (od rfl))) rfl fun a w hS hM => ?_
              refine l_end ?_
              refine exit_then ?_
              refine wp_seq ?_
              refine st_reg mixed (by kernel_rfl) hS ?_
              refine sc (sg (sp_move (od rfl))) ?_
              refine sc (sg (sp_eql (od rfl) (odi))) ?_
              refine sc (sg (sp_move (od rfl))) ?_
              refine sc (sgT rfl fun hG => sp_move (od rfl)) ?_
              refine sc (sg (sp_pickAnd (od rfl) fun hg => odw rfl hg)) ?_
              refine sc (sg (sp_move (od rfl))) ?_
              refine sc (sgT rfl fun hG => sp_fieldAddr fd82_1 (od rfl)) ?_
              refine sc (sgT rfl fun hG => sp_load ty3 (odw rfl hG)) ?_
              refine sc (sgT rfl fun hG => sp_fieldAddr fd82_0 (od rfl)) ?_
              refine sc (sgT rfl fun hG => sp_load ty3 (odw rfl hG)) ?_
              refine sc (sgT rfl fun hG => sp_sub (odw rfl hG) (odw rfl hG)) ?_
              refine sc (sgT rfl fun hG => sp_move (od rfl)) ?_
              refine sc (sgT rfl fun hG => sp_eql (odw rfl hG) (odw rfl hG)) ?_
              refine sc (sg (sp_pickAnd (od rfl) fun hg => odw rfl hg)) ?_
              refine sc (sg (sp_assign (od rfl))) ?_
              refine sn fun a w hS => ?_
              refine exit_then ?_
              refine wp_ret ?_
              cases h
              exact st_ret hS (run_results1 Try.results13 a w) (hS.get rfl)

end Go.Proofs.Ytkbilbeaedocjaa
