/-
  What is proved: each Go function named here returns what its model tells, and changes nothing that was there; where the model tells something.
-/
import Derived.Test.YtkbilbeaedocjaaWalkG
import Derived.Test.YtkbilbeaedocjaaWalkK
import Derived.Test.YtkbilbeaedocjaaGivenc
import Derived.Test.YtkbilbeaedocjaaModelJ
set_option linter.unusedVariables false
set_option maxRecDepth 100000
namespace Go.Proofs.Ytkbilbeaedocjaa
open Go Go.RowKit Go.Proofs.Ytkbilbeaedocjaa.Wh

theorem f91_ok {p0 : Int} {c0 : Int} {c1 : Int} {r : Int} (h : M.f91 p0 c0 c1 = some r) : CallOK Try.prog 91 [isV p0, isA c0, isA c1] (isV r) := by
  unfold M.f91 at h
  refine callS_of Try.func91 rfl Try.ntmps91 rfl fun F0 w0 a hS => ?_
  refine wp_seq ?_
  refine st_reg mixed (by kernel_rfl) hS ?_
  refine sc (sg (sp_assign (odi))) ?_
  refine sn fun a w hS => ?_
  refine exit_then ?_
  refine wp_seq ?_
  refine wp_seq ?_
  refine st_reg mixed (by kernel_rfl) hS ?_
  refine sc (sg (sp_move (od rfl))) ?_
  refine sn fun a w hS => ?_
  refine exit_then ?_
  refine wp_block ?_
  refine wp_seq ?_
  refine st_reg mixed (by kernel_rfl) hS ?_
  refine sc (sg (sp_load ty3 (od rfl))) ?_
  refine sc (sg (sp_eql (od rfl) (od rfl))) ?_
  refine sc (sg (sp_assign (od rfl))) ?_
  refine sn fun a w hS => ?_
  refine exit_then ?_
  refine st_cond hS rfl (fun hb => ?_) (fun hb => ?_)
  · have h := ite_t hb h
    refine wp_seq ?_
    refine st_reg mixed (by kernel_rfl) hS ?_
    refine sc (sg (sp_load ty3 (od rfl))) ?_
    refine sc (sg (sp_assign (od rfl))) ?_
    refine sn fun a w hS => ?_
    refine exit_then ?_
    refine wp_ret ?_
    refine exit_blockR ?_
    refine exit_thenR ?_
    cases h
    exact st_ret hS (run_results1 Try.results91 a w) (hS.get rfl)
  · have h := ite_f hb h
    refine wp_seq ?_
    refine st_reg mixed (by kernel_rfl) hS ?_
    refine sc (sg (sp_load ty3 (od rfl))) ?_
    refine sc (sg (sp_eql (od rfl) (od rfl))) ?_
    refine sc (sg (sp_assign (od rfl))) ?_
    refine sn fun a w hS => ?_
    refine exit_then ?_
    refine st_cond hS rfl (fun hb => ?_) (fun hb => ?_)
    · have h := ite_t hb h
      refine wp_seq ?_
      refine st_reg mixed (by kernel_rfl) hS ?_
      refine sc (sg (sp_load ty3 (od rfl))) ?_
      refine sc (sg (sp_assign (od rfl))) ?_
      refine sn fun a w hS => ?_
      refine exit_then ?_
      refine wp_ret ?_
      refine exit_blockR ?_
      refine exit_thenR ?_
      cases h
      exact st_ret hS (run_results1 Try.results91 a w) (hS.get rfl)
    · have h := ite_f hb h
      refine wp_skip ?_
      refine exit_block ?_
      refine exit_then ?_
      refine wp_seq ?_
      refine st_reg mixed (by kernel_rfl) hS ?_
      refine sc (sg (sp_move (od rfl))) ?_
      refine sc (sg (sp_assign (od rfl))) ?_
      refine sn fun a w hS => ?_
      refine exit_then ?_
      refine wp_ret ?_
      cases h
      exact st_ret hS (run_results1 Try.results91 a w) (hS.get rfl)

theorem f32_ok {p0 : S_api_Market} {p1 : Int} {p2 : Int} {r : S_api_Market} (h : M.f32 p0 p1 p2 = some r) : CallOK Try.prog 32 [isV p0, isV p1, isV p2] (isV r) := by
  unfold M.f32 at h
  refine callS_of Try.func32 rfl Try.ntmps32 rfl fun F0 w0 a hS => ?_
  refine wp_seq ?_
  refine l_start ?_
  refine s_c hS (sg (sp_box (od rfl))) rfl fun a w hS hM => ?_
  refine s_c hS (sg (sp_box (od rfl))) rfl fun a w hS hM => ?_
  refine s_c hS (sg (sp_box (od rfl))) rfl fun a w hS hM => ?_
  refine s_alloc zi24 hS rfl fun a w b_1 hS hM => ?_
  have hS : St _ F0 [Item.box (α := S_api_Market) 24 b_1 ((0, [], []) : S_api_Market)] _ w0 _ _ := hS
  refine l_end ?_
  refine exit_then ?_
  refine wp_seq ?_
  refine st_reg mixed (by kernel_rfl) hS ?_
  refine sc (sg (mk_fn122 (f := (fun x0 => M.f91 x0 p1 p2)) (κs := [isA (α := Int) p1, isA (α := Int) p2]) ⟨fun _ _ _ _ h => h, fun _ _ _ _ h => h, trivial⟩ en91 ⟨od rfl, od rfl, trivial⟩ (fun _ _ h => f91_ok h))) ?_
  refine sc (sg (sp_assign (od rfl))) ?_
  refine sn fun a w hS => ?_
  refine exit_then ?_
  refine wp_seq ?_
  refine l_start ?_
  refine s_c hS (sg (sp_fieldAddr fd24_0 (od rfl))) rfl fun a w hS hM => ?_
  refine s_c hS (sg (sp_load ty3 (od rfl))) rfl fun a w hS hM => ?_
  refine s_c hS (sg (bdR24_0_12 (od rfl))) rfl fun a w hS hM => ?_
  refine s_alloc ziR24_12 hS rfl fun a w b_2 hS hM => ?_
  have hS : St _ F0 [Item.box (α := S_api_Market) 24 b_1 ((0, [], []) : S_api_Market), Item.box (α := Int × Raw × Raw) 24 b_2 ((0 : Int), (Raw.mk (.slice none 0 0)), (Raw.mk (.slice none 0 0)))] _ w0 _ _ := hS
  have hS := st_nil (α := S_api_Offer) 59 hS
  have hS := st_nil (α := S_api_Offer) 59 hS
  have hS : St _ F0 [Item.box (α := S_api_Market) 24 b_1 ((0, [], []) : S_api_Market), Item.box (α := Int × Raw × Raw) 24 b_2 ((0 : Int), (Raw.mk (.slice none 0 0)), (Raw.mk (.slice none 0 0))), Item.sl (α := S_api_Offer) 59 (.slice none 0 0) ([] : List S_api_Offer), Item.sl (α := S_api_Offer) 59 (.slice none 0 0) ([] : List S_api_Offer)] _ w0 _ _ := hS
  refine s_storeB (k := 1) (Δ := [(3, isA (α := S_api_Market) p0), (6, Pr.ptr b_1), (7, isV (α := (Int → Option Int)) ((fun x0 => M.f91 x0 p1 p2) : (Int → Option Int))), (8, Pr.ptr b_2), (16, isV (α := Int × Raw × Raw) (p0.1, (Raw.mk (.slice none 0 0)), (Raw.mk (.slice none 0 0))))]) tyR24_12 hS rfl ⟨od rfl, od rfl, od rfl, od rfl, od rfl, trivial⟩ ⟨fun _ _ _ _ h => h, fun _ _ _ _ h => h, fun _ _ _ _ h => h, fun _ _ _ _ h => h, fun _ _ _ _ h => h, trivial⟩ rfl (od rfl) fun w hS hM => ?_
  have hS : St _ F0 [Item.box (α := S_api_Market) 24 b_1 ((0, [], []) : S_api_Market), Item.box (α := Int × Raw × Raw) 24 b_2 (p0.1, (Raw.mk (.slice none 0 0)), (Raw.mk (.slice none 0 0))), Item.sl (α := S_api_Offer) 59 (.slice none 0 0) ([] : List S_api_Offer), Item.sl (α := S_api_Offer) 59 (.slice none 0 0) ([] : List S_api_Offer)] _ w0 _ _ := hS
  refine l_end ?_
  refine exit_then ?_
  refine wp_seq ?_
  refine wp_seq ?_
  refine st_reg mixed (by kernel_rfl) hS ?_
  refine sc (sg (sp_fieldAddr fd24_1 (od rfl))) ?_
  refine sc (sg (sp_load ty22 (od rfl))) ?_
  refine sc (sg (sp_len Try.underlying22 (od rfl))) ?_
  refine sc (sg (sp_move (odi))) ?_
  refine sn fun a w hS => ?_
  refine exit_then ?_
  refine wp_block ?_
  obtain ⟨o_6, e_7, hr_8⟩ := bind_some h
  refine c_loop (fun K a w => ∃ k i_3 s_5, ∃ u_9 : Value, K = k + 1 ∧ ForT _ _ _ o_6 k i_3 s_5 ∧ St 70 F0 [Item.box (α := S_api_Market) 24 b_1 ((0, [], []) : S_api_Market), Item.box (α := Int × Raw × Raw) 24 b_2 (p0.1, (Raw.mk u_9), (Raw.mk (.slice none 0 0))), Item.sl (α := S_api_Offer) 59 u_9 s_5, Item.sl (α := S_api_Offer) 59 (.slice none 0 0) ([] : List S_api_Offer)] [(3, isA (α := S_api_Market) p0), (6, Pr.ptr b_1), (7, isV (α := (Int → Option Int)) ((fun x0 => M.f91 x0 p1 p2) : (Int → Option Int))), (8, Pr.ptr b_2), (18, isV (α := List S_api_Offer) p0.2.1), (19, isV (α := Int) (p0.2.1.length : Int)), (20, isV (α := Int) i_3)] w0 a w) ?_ ?_ ⟨_, _, _, (.slice none 0 0), rfl, fors_init e_7, hS.weak ⟨od rfl, od rfl, od rfl, od rfl, od rfl, od rfl, od rfl, trivial⟩⟩
  · rintro a w ⟨_, _, _, _, hk, _⟩; cases hk
  rintro K a w ⟨k_6, i_3, s_5, u_9, hk, hF_6, hS⟩
  obtain rfl := Nat.succ.inj hk
  refine wp_seq ?_
  refine st_reg mixed (by kernel_rfl) hS ?_
  refine sc (sg (sp_lss (od rfl) (od rfl))) ?_
  refine sn fun a w hS => ?_
  refine exit_then ?_
  refine wp_seq ?_
  refine st_cond hS rfl (fun hb => ?_) (fun hb => ?_)
  · refine wp_skip ?_
    refine exit_then ?_
    obtain ⟨k_6, s', rfl, h, hF_6, hw_6⟩ := fors_more hF_6 hb
    refine wp_seq ?_
    refine wp_block ?_
    refine wp_seq ?_
    obtain ⟨v_10, e_11, h⟩ := bind_some h
    refine l_start ?_
    refine s_c hS (sg (sp_indexAddr sl22 (od rfl) (od rfl) e_11)) rfl fun a w hS hM => ?_
    refine s_c hS (sg (sp_load ty59 (od rfl))) rfl fun a w hS hM => ?_
    refine s_allocStore ze59 hS (od rfl) (fun k hk => by cases hk; rfl) rfl fun a w hS hM => ?_
    refine l_end ?_
    refine exit_then ?_
    have hS := st_box 1 8 hS rfl rfl
    obtain ⟨v_12, e_13, h⟩ := bind_some h
    obtain ⟨v_14, e_15, h⟩ := bind_some h
    obtain ⟨z_16, e_17, h⟩ := bind_some h
    refine st_float mixed [0, 0, 0, 0, 0, 0, 0, 0, 0, 0, 0, 0, 0, 0, 0, 0, 2, 2, 2] (by kernel_rfl) (by kernel_rfl) hS ?_
    refine sfA (sg (sp_fieldAddrB fdR24_12_1 (odB rfl))) ?_
    refine sfA (sg (sp_loadRaw tyR22_w (od rfl))) ?_
    refine sfA (sg (sp_move (od rfl))) ?_
    refine sfA (sg (sp_fieldAddr fd59_0 (od rfl))) ?_
    refine sfA (sg (sp_load ty3 (od rfl))) ?_
    refine sfA (sg (sp_callV (od_fn122 (od rfl)) ⟨od rfl, trivial⟩ e_13)) ?_
    refine sfA (sg (sp_move (od rfl))) ?_
    refine sfA (sg (sp_fieldAddr fd59_1 (od rfl))) ?_
    refine sfA (sg (sp_load ty3 (od rfl))) ?_
    refine sfA (sg (sp_callV (od_fn122 (od rfl)) ⟨od rfl, trivial⟩ e_15)) ?_
    refine sfA (sg (sp_fieldAddr fd59_2 (od rfl))) ?_
    refine sfA (sg (sp_load ty3 (od rfl))) ?_
    refine sfA (sg (sp_fieldAddr fd59_3 (od rfl))) ?_
    refine sfA (sg (sp_load ty3 (od rfl))) ?_
    refine sfA (sg (bd59_0123 (od rfl) (od rfl) (od rfl) (od rfl))) ?_
    refine sfA (sg (sp_buildSlice [.tmp 38] ([((v_12, v_14, v_10.2.2.1, v_10.2.2.2) : S_api_Offer)] : List S_api_Offer) sl22 ze59 rfl rfl rfl rfl ⟨od rfl, trivial⟩)) ?_
    refine sfT ?_
    refine sfT ?_
    refine sfT ?_
    refine sfN fun c a w hS hC => ?_
    refine ls ?_
    refine s_append (k := 2) (Δ := [(3, isA (α := S_api_Market) p0), (6, Pr.ptr b_1), (7, isV (α := (Int → Option Int)) ((fun x0 => M.f91 x0 p1 p2) : (Int → Option Int))), (8, Pr.ptr b_2), (18, isV (α := List S_api_Offer) p0.2.1), (19, isV (α := Int) (p0.2.1.length : Int)), (20, isV (α := Int) i_3), (25, Pr.is u_9), (39, isV (α := List S_api_Offer) ([((v_12, v_14, v_10.2.2.1, v_10.2.2.2) : S_api_Offer)] : List S_api_Offer))]) sl22 ze59 hS rfl ⟨od rfl, od rfl, od rfl, odBx rfl, od rfl, od rfl, od rfl, od rfl, od rfl, trivial⟩ ⟨fun _ _ _ _ h => h, fun _ _ _ _ h => h, fun _ _ _ _ h => h, fun _ _ _ _ h => h, fun _ _ _ _ h => h, fun _ _ _ _ h => h, fun _ _ _ _ h => h, fun _ _ _ _ h => h, fun _ _ _ _ h => h, trivial⟩ (od rfl) (od rfl) e_17 rfl fun a w u_18 hS hM => ?_
    have hS : St _ F0 [Item.box (α := S_api_Market) 24 b_1 ((0, [], []) : S_api_Market), Item.box (α := Int × Raw × Raw) 24 b_2 (p0.1, (Raw.mk u_9), (Raw.mk (.slice none 0 0))), Item.sl (α := S_api_Offer) 59 u_18 z_16, Item.sl (α := S_api_Offer) 59 (.slice none 0 0) ([] : List S_api_Offer)] _ w0 _ _ := hS
    have hC := Mem.le_trans hC hM
    refine s_next hC ?_
    refine ls ?_
    refine s_c hS (sg (sp_fieldAddrP fo24_1 (od rfl))) rfl fun a w hS hM => ?_
    have hC := Mem.le_trans hC hM
    refine s_next hC ?_
    refine ls ?_
    refine s_storeP (k := 1) (off := 1) (Δ := [(3, isA (α := S_api_Market) p0), (6, Pr.ptr b_1), (7, isV (α := (Int → Option Int)) ((fun x0 => M.f91 x0 p1 p2) : (Int → Option Int))), (8, Pr.ptr b_2), (18, isV (α := List S_api_Offer) p0.2.1), (19, isV (α := Int) (p0.2.1.length : Int)), (20, isV (α := Int) i_3), (40, Pr.is u_18), (41, Pr.is (.pointer (some ⟨b_2, 1, none⟩)))]) tyR22_w hS rfl ⟨od rfl, od rfl, od rfl, od rfl, od rfl, od rfl, od rfl, od rfl, od rfl, trivial⟩ ⟨fun _ _ _ _ h => h, fun _ _ _ _ h => h, fun _ _ _ _ h => h, fun _ _ _ _ h => h, fun _ _ _ _ h => h, fun _ _ _ _ h => h, fun _ _ _ _ h => h, fun _ _ _ _ h => h, fun _ _ _ _ h => h, trivial⟩ (od rfl) (odRaw (od rfl) (hS.one (k := 2) rfl)) sf24_12_1 fun w hS hM => ?_
    have hS : St _ F0 [Item.box (α := S_api_Market) 24 b_1 ((0, [], []) : S_api_Market), Item.box (α := Int × Raw × Raw) 24 b_2 (p0.1, (Raw.mk u_18), (Raw.mk (.slice none 0 0))), Item.sl (α := S_api_Offer) 59 u_18 z_16, Item.sl (α := S_api_Offer) 59 (.slice none 0 0) ([] : List S_api_Offer)] _ w0 _ _ := hS
    have hC := Mem.le_trans hC hM
    refine s_next hC ?_
    refine s_done ?_
    refine exit_block ?_
    refine exit_then ?_
    refine st_reg mixed (by kernel_rfl) hS ?_
    refine sc (sg (sp_add (od rfl) (odi))) ?_
    refine sc (sg (sp_move (od rfl))) ?_
    refine sn fun a w hS => ?_
    cases h
    exact ⟨k_6, _, _, u_18, rfl, hF_6, hS.weak ⟨od rfl, od rfl, od rfl, od rfl, od rfl, od rfl, od (congrArg (fun z => some (isV (α := Int) z)) hw_6), trivial⟩⟩
  · refine wp_exit ?_
    obtain rfl := (fors_done hF_6 hb).symm
    have h := hr_8
    refine exit_thenE ?_
    refine exit_thenE ?_
    refine exit_here ?_
    refine exit_then ?_
    refine wp_seq ?_
    refine wp_seq ?_
    refine st_reg mixed (by kernel_rfl) hS ?_
    refine sc (sg (sp_fieldAddr fd24_2 (od rfl))) ?_
    refine sc (sg (sp_load ty22 (od rfl))) ?_
    refine sc (sg (sp_len Try.underlying22 (od rfl))) ?_
    refine sc (sg (sp_move (odi))) ?_
    refine sn fun a w hS => ?_
    refine exit_then ?_
    refine wp_block ?_
    obtain ⟨o_22, e_23, hr_24⟩ := bind_some h
    refine c_loop (fun K a w => ∃ k i_19 s_21, ∃ u_25 : Value, K = k + 1 ∧ ForT _ _ _ o_22 k i_19 s_21 ∧ St 70 F0 [Item.box (α := S_api_Market) 24 b_1 ((0, [], []) : S_api_Market), Item.box (α := Int × Raw × Raw) 24 b_2 (p0.1, (Raw.mk u_9), (Raw.mk u_25)), Item.sl (α := S_api_Offer) 59 u_9 s_5, Item.sl (α := S_api_Offer) 59 u_25 s_21] [(6, Pr.ptr b_1), (7, isV (α := (Int → Option Int)) ((fun x0 => M.f91 x0 p1 p2) : (Int → Option Int))), (8, Pr.ptr b_2), (44, isV (α := List S_api_Offer) p0.2.2), (45, isV (α := Int) (p0.2.2.length : Int)), (46, isV (α := Int) i_19)] w0 a w) ?_ ?_ ⟨_, _, _, (.slice none 0 0), rfl, fors_init e_23, hS.weak ⟨od rfl, od rfl, od rfl, od rfl, od rfl, od rfl, trivial⟩⟩
    · rintro a w ⟨_, _, _, _, hk, _⟩; cases hk
    rintro K a w ⟨k_22, i_19, s_21, u_25, hk, hF_22, hS⟩
    obtain rfl := Nat.succ.inj hk
    refine wp_seq ?_
    refine st_reg mixed (by kernel_rfl) hS ?_
    refine sc (sg (sp_lss (od rfl) (od rfl))) ?_
    refine sn fun a w hS => ?_
    refine exit_then ?_
    refine wp_seq ?_
    refine st_cond hS rfl (fun hb => ?_) (fun hb => ?_)
    · refine wp_skip ?_
      refine exit_then ?_
      obtain ⟨k_22, s', rfl, h, hF_22, hw_22⟩ := fors_more hF_22 hb
      refine wp_seq ?_
      refine wp_block ?_
      refine wp_seq ?_
      obtain ⟨v_26, e_27, h⟩ := bind_some h
      refine l_start ?_
      refine s_c hS (sg (sp_indexAddr sl22 (od rfl) (od rfl) e_27)) rfl fun a w hS hM => ?_
      refine s_c hS (sg (sp_load ty59 (od rfl))) rfl fun a w hS hM => ?_
      refine s_allocStore ze59 hS (od rfl) (fun k hk => by cases hk; rfl) rfl fun a w hS hM => ?_
      refine l_end ?_
      refine exit_then ?_
      have hS := st_box 1 8 hS rfl rfl
      obtain ⟨v_28, e_29, h⟩ := bind_some h
      obtain ⟨v_30, e_31, h⟩ := bind_some h
      obtain ⟨z_32, e_33, h⟩ := bind_some h
      refine st_float mixed [0, 0, 0, 0, 0, 0, 0, 0, 0, 0, 0, 0, 0, 0, 0, 0, 2, 2, 2] (by kernel_rfl) (by kernel_rfl) hS ?_
      refine sfA (sg (sp_fieldAddrB fdR24_12_2 (odB rfl))) ?_
      refine sfA (sg (sp_loadRaw tyR22_w (od rfl))) ?_
      refine sfA (sg (sp_move (od rfl))) ?_
      refine sfA (sg (sp_fieldAddr fd59_0 (od rfl))) ?_
      refine sfA (sg (sp_load ty3 (od rfl))) ?_
      refine sfA (sg (sp_callV (od_fn122 (od rfl)) ⟨od rfl, trivial⟩ e_29)) ?_
      refine sfA (sg (sp_move (od rfl))) ?_
      refine sfA (sg (sp_fieldAddr fd59_1 (od rfl))) ?_
      refine sfA (sg (sp_load ty3 (od rfl))) ?_
      refine sfA (sg (sp_callV (od_fn122 (od rfl)) ⟨od rfl, trivial⟩ e_31)) ?_
      refine sfA (sg (sp_fieldAddr fd59_2 (od rfl))) ?_
      refine sfA (sg (sp_load ty3 (od rfl))) ?_
      refine sfA (sg (sp_fieldAddr fd59_3 (od rfl))) ?_
      refine sfA (sg (sp_load ty3 (od rfl))) ?_
      refine sfA (sg (bd59_0123 (od rfl) (od rfl) (od rfl) (od rfl))) ?_
      refine sfA (sg (sp_buildSlice [.tmp 64] ([((v_28, v_30, v_26.2.2.1, v_26.2.2.2) : S_api_Offer)] : List S_api_Offer) sl22 ze59 rfl rfl rfl rfl ⟨od rfl, trivial⟩)) ?_
      refine sfT ?_
      refine sfT ?_
      refine sfT ?_
      refine sfN fun c a w hS hC => ?_
      refine ls ?_
      refine s_append (k := 3) (Δ := [(6, Pr.ptr b_1), (7, isV (α := (Int → Option Int)) ((fun x0 => M.f91 x0 p1 p2) : (Int → Option Int))), (8, Pr.ptr b_2), (44, isV (α := List S_api_Offer) p0.2.2), (45, isV (α := Int) (p0.2.2.length : Int)), (46, isV (α := Int) i_19), (51, Pr.is u_25), (65, isV (α := List S_api_Offer) ([((v_28, v_30, v_26.2.2.1, v_26.2.2.2) : S_api_Offer)] : List S_api_Offer))]) sl22 ze59 hS rfl ⟨od rfl, od rfl, odBx rfl, od rfl, od rfl, od rfl, od rfl, od rfl, trivial⟩ ⟨fun _ _ _ _ h => h, fun _ _ _ _ h => h, fun _ _ _ _ h => h, fun _ _ _ _ h => h, fun _ _ _ _ h => h, fun _ _ _ _ h => h, fun _ _ _ _ h => h, fun _ _ _ _ h => h, trivial⟩ (od rfl) (od rfl) e_33 rfl fun a w u_34 hS hM => ?_
      have hS : St _ F0 [Item.box (α := S_api_Market) 24 b_1 ((0, [], []) : S_api_Market), Item.box (α := Int × Raw × Raw) 24 b_2 (p0.1, (Raw.mk u_9), (Raw.mk u_25)), Item.sl (α := S_api_Offer) 59 u_9 s_5, Item.sl (α := S_api_Offer) 59 u_34 z_32] _ w0 _ _ := hS
      have hC := Mem.le_trans hC hM
      refine s_next hC ?_
      refine ls ?_
      refine s_c hS (sg (sp_fieldAddrP fo24_2 (od rfl))) rfl fun a w hS hM => ?_
      have hC := Mem.le_trans hC hM
      refine s_next hC ?_
      refine ls ?_
      refine s_storeP (k := 1) (off := 2) (Δ := [(6, Pr.ptr b_1), (7, isV (α := (Int → Option Int)) ((fun x0 => M.f91 x0 p1 p2) : (Int → Option Int))), (8, Pr.ptr b_2), (44, isV (α := List S_api_Offer) p0.2.2), (45, isV (α := Int) (p0.2.2.length : Int)), (46, isV (α := Int) i_19), (66, Pr.is u_34), (67, Pr.is (.pointer (some ⟨b_2, 2, none⟩)))]) tyR22_w hS rfl ⟨od rfl, od rfl, od rfl, od rfl, od rfl, od rfl, od rfl, od rfl, trivial⟩ ⟨fun _ _ _ _ h => h, fun _ _ _ _ h => h, fun _ _ _ _ h => h, fun _ _ _ _ h => h, fun _ _ _ _ h => h, fun _ _ _ _ h => h, fun _ _ _ _ h => h, fun _ _ _ _ h => h, trivial⟩ (od rfl) (odRaw (od rfl) (hS.one (k := 3) rfl)) sf24_12_2 fun w hS hM => ?_
      have hS : St _ F0 [Item.box (α := S_api_Market) 24 b_1 ((0, [], []) : S_api_Market), Item.box (α := Int × Raw × Raw) 24 b_2 (p0.1, (Raw.mk u_9), (Raw.mk u_34)), Item.sl (α := S_api_Offer) 59 u_9 s_5, Item.sl (α := S_api_Offer) 59 u_34 z_32] _ w0 _ _ := hS
      have hC := Mem.le_trans hC hM
      refine s_next hC ?_
      refine s_done ?_
      refine exit_block ?_
      refine exit_then ?_
      refine st_reg mixed (by kernel_rfl) hS ?_
      refine sc (sg (sp_add (od rfl) (odi))) ?_
      refine sc (sg (sp_move (od rfl))) ?_
      refine sn fun a w hS => ?_
      cases h
      exact ⟨k_22, _, _, u_34, rfl, hF_22, hS.weak ⟨od rfl, od rfl, od rfl, od rfl, od rfl, od (congrArg (fun z => some (isV (α := Int) z)) hw_22), trivial⟩⟩
    · refine wp_exit ?_
      obtain rfl := (fors_done hF_22 hb).symm
      have h := hr_24
      refine exit_thenE ?_
      refine exit_thenE ?_
      refine exit_here ?_
      refine exit_then ?_
      refine wp_seq ?_
      have hS := st_unraw 2 1 hS rfl rfl (UnR.snd (UnR.fst UnR.self))
      have hS := st_unraw 2 1 hS rfl rfl (UnR.snd (UnR.snd UnR.self))
      have hS : St _ F0 [Item.box (α := S_api_Market) 24 b_1 ((0, [], []) : S_api_Market), Item.box (α := S_api_Market) 24 b_2 ((p0.1, s_5, s_21) : S_api_Market)] _ w0 _ _ := hS
      have hS := st_freezeB 1 8 hS rfl rfl
      refine l_start ?_
      refine s_c hS (sg (sp_load ty24 (od rfl))) rfl fun a w hS hM => ?_
      refine s_storeB (k := 0) (Δ := [(6, Pr.ptr b_1), (69, isV (α := S_api_Market) ((p0.1, s_5, s_21) : S_api_Market))]) ty24 hS rfl ⟨od rfl, od rfl, trivial⟩ ⟨fun _ _ _ _ h => h, fun _ _ _ _ h => h, trivial⟩ rfl (od rfl) fun w hS hM => ?_
      have hS : St _ F0 [Item.box (α := S_api_Market) 24 b_1 ((p0.1, s_5, s_21) : S_api_Market)] _ w0 _ _ := hS
      have hS := st_freezeB 0 6 hS rfl rfl
      refine l_end ?_
      refine exit_then ?_
      refine wp_ret ?_
      cases h
      obtain ⟨v, hr, hv⟩ := run_resC1 Try.results32 ty24 (hS.get rfl)
      exact st_ret hS hr hv

theorem f5_ok {fuel : Nat} {p0 : S_api_Market} {p1 : List Int} {p2 : Int} {p3 : Int} {p4 : Int} {p5 : Int} {r : Bool} (h : M.f5 fuel p0 p1 p2 p3 p4 p5 = some r) : CallOK Try.prog 5 [isV p0, isV p1, isV p2, isV p3, isV p4, isV p5] (isV r) := by
  unfold M.f5 at h
  refine callS_of Try.func5 rfl Try.ntmps5 rfl fun F0 w0 a hS => ?_
  refine wp_seq ?_
  refine st_reg mixed (by kernel_rfl) hS ?_
  refine sc (sg (sp_box (od rfl))) ?_
  refine sc (sg (sp_assign (odb))) ?_
  refine sn fun a w hS => ?_
  refine exit_then ?_
  refine wp_seq ?_
  refine wp_seq ?_
  obtain ⟨v_1, e_2, h⟩ := bind_some h
  refine st_reg mixed (by kernel_rfl) hS ?_
  refine sc (sg (sp_call en16 (f16_ok e_2) trivial)) ?_
  refine sc (sg (sp_not (od rfl))) ?_
  refine sn fun a w hS => ?_
  refine exit_then ?_
  refine st_cond hS rfl (fun hb => ?_) (fun hb => ?_)
  · have h := ite_t hb h
    refine wp_seq ?_
    refine st_reg mixed (by kernel_rfl) hS ?_
    refine sc (sg (sp_assign (odb))) ?_
    refine sn fun a w hS => ?_
    refine exit_then ?_
    refine wp_ret ?_
    refine exit_thenR ?_
    cases h
    exact st_ret hS (run_results1 Try.results5 a w) (hS.get rfl)
  · have h := ite_f hb h
    refine wp_skip ?_
    refine exit_then ?_
    refine wp_seq ?_
    refine wp_seq ?_
    obtain ⟨v_3, e_4, h⟩ := bind_some h
    refine st_reg mixed (by kernel_rfl) hS ?_
    refine sc (sg (sp_load ty24 (od rfl))) ?_
    refine sc (sg (sp_move (od rfl))) ?_
    refine sc (sg (sp_move (od rfl))) ?_
    refine sc (sg (sp_move (od rfl))) ?_
    refine sc (sg (sp_move (od rfl))) ?_
    refine sc (sg (sp_buildSlice [.tmp 35, .tmp 36, .tmp 37] ([p2, p3, p4] : List Int) sl27 ze3 rfl rfl rfl rfl ⟨od rfl, od rfl, od rfl, trivial⟩)) ?_
    refine sc (sg (sp_call en31 (f31_ok e_4) ⟨od rfl, od rfl, od rfl, trivial⟩)) ?_
    refine sc (sg (sp_not (od rfl))) ?_
    refine sc (sg (sp_move (od rfl))) ?_
    refine sc (sgF rfl fun hG => sp_move (od rfl)) ?_
    refine sc (sgF rfl fun hG => sp_lss (odw rfl hG) (odi)) ?_
    refine sc (sg (sp_pickOr (od rfl) fun hg => odw rfl (not_t hg))) ?_
    refine sc (sg (sp_move (od rfl))) ?_
    refine sc (sgF rfl fun hG => sp_move (od rfl)) ?_
    refine sc (sgF rfl fun hG => sp_gtr (odw rfl hG) (odi)) ?_
    refine sc (sg (sp_pickOr (od rfl) fun hg => odw rfl (not_t hg))) ?_
    refine sc (sg (sp_move (od rfl))) ?_
    refine sc (sgF rfl fun hG => sp_move (od rfl)) ?_
    refine sc (sgF rfl fun hG => sp_move (od rfl)) ?_
    refine sc (sgF rfl fun hG => sp_eql (odw rfl hG) (odw rfl hG)) ?_
    refine sc (sg (sp_pickOr (od rfl) fun hg => odw rfl (not_t hg))) ?_
    refine sc (sg (sp_move (od rfl))) ?_
    refine sc (sgF rfl fun hG => sp_move (od rfl)) ?_
    refine sc (sgF rfl fun hG => sp_move (od rfl)) ?_
    refine sc (sgF rfl fun hG => sp_eql (odw rfl hG) (odw rfl hG)) ?_
    refine sc (sg (sp_pickOr (od rfl) fun hg => odw rfl (not_t hg))) ?_
    refine sn fun a w hS => ?_
    refine exit_then ?_
    refine st_cond hS rfl (fun hb => ?_) (fun hb => ?_)
    · have h := ite_t hb h
      refine wp_seq ?_
      refine st_reg mixed (by kernel_rfl) hS ?_
      refine sc (sg (sp_assign (odb))) ?_
      refine sn fun a w hS => ?_
      refine exit_then ?_
      refine wp_ret ?_
      refine exit_thenR ?_
      cases h
      exact st_ret hS (run_results1 Try.results5 a w) (hS.get rfl)
    · have h := ite_f hb h
      refine wp_skip ?_
      refine exit_then ?_
      refine wp_seq ?_
      obtain ⟨v_5, e_6, h⟩ := bind_some h
      refine l_start ?_
      refine s_c hS (sg (sp_load ty24 (od rfl))) rfl fun a w hS hM => ?_
      refine s_c hS (sg (sp_move (od rfl))) rfl fun a w hS hM => ?_
      refine s_c hS (sg (sp_move (od rfl))) rfl fun a w hS hM => ?_
      refine s_c hS (sg (sp_call en32 (f32_ok e_6) ⟨od rfl, od rfl, od rfl, trivial⟩)) rfl fun a w hS hM => ?_
      refine s_c hS (sg (sp_move (od rfl))) rfl fun a w hS hM => ?_
      refine s_allocStore ze24 hS (od rfl) (fun k hk => by cases hk; rfl) rfl fun a w hS hM => ?_
      refine s_c hS (sg (sp_assign (od rfl))) rfl fun a w hS hM => ?_
      refine l_end ?_
      refine exit_then ?_
      refine wp_seq ?_
      refine wp_seq ?_
      refine st_reg mixed (by kernel_rfl) hS ?_
      refine sc (sg (sp_move (od rfl))) ?_
      refine sc (sg (sp_move (od rfl))) ?_
      refine sc (sg (sp_eql (od rfl) (od rfl))) ?_
      refine sn fun a w hS => ?_
      refine exit_then ?_
      obtain ⟨y_8, hj_7, h⟩ := bind_some h
      refine wp_mono (Q := fun e a w => e = Exit.normal ∧ St 254 F0 [] [(1, isV (α := List Int) p1), (2, isV (α := Int) p2), (3, isV (α := Int) p3), (4, isV (α := Int) p4), (5, isV (α := Int) p5), (6, isA (α := S_api_Market) p0), (13, isA (α := S_api_Market) v_5), (14, isV (α := Int) y_8)] w0 a w) ?_ ?_
      · refine st_cond hS rfl (fun hb => ?_) (fun hb => ?_)
        · have h := ite_t hb hj_7
          refine st_reg mixed (by kernel_rfl) hS ?_
          refine sc (sg (sp_move (od rfl))) ?_
          refine sc (sg (sp_assign (od rfl))) ?_
          refine sn fun a w hS => ?_
          cases h
          exact ⟨rfl, hS.weak ⟨od rfl, od rfl, od rfl, od rfl, od rfl, od rfl, od rfl, od rfl, trivial⟩⟩
        · have h := ite_f hb hj_7
          refine wp_skip ?_
          cases h
          exact ⟨rfl, hS.weak ⟨od rfl, od rfl, od rfl, od rfl, od rfl, od rfl, od rfl, od rfl, trivial⟩⟩
      rintro e a w ⟨rfl, hS⟩
      refine exit_then ?_
      refine wp_seq ?_
      obtain ⟨v_9, e_10, h⟩ := bind_some h
      refine st_reg mixed (by kernel_rfl) hS ?_
      refine sc (sg (sp_load ty24 (od rfl))) ?_
      refine sc (sg (sp_move (od rfl))) ?_
      refine sc (sg (sp_move (od rfl))) ?_
      refine sc (sg (sp_move (od rfl))) ?_
      refine sc (sg (sp_call en33 (f33_ok e_10) ⟨od rfl, od rfl, od rfl, od rfl, trivial⟩)) ?_
      refine sc (sg (sp_move (od rfl))) ?_
      refine sc (sg (sp_extract (od rfl) rfl)) ?_
      refine sc (sg (sp_extract (od rfl) rfl)) ?_
      refine sc (sg (sp_extract (od rfl) rfl)) ?_
      refine sc (sg (sp_assign (od rfl))) ?_
      refine sc (sg (sp_assign (od rfl))) ?_
      refine sc (sg (sp_assign (od rfl))) ?_
      refine sn fun a w hS => ?_
      refine exit_then ?_
      refine wp_seq ?_
      obtain ⟨v_11, e_12, h⟩ := bind_some h
      refine st_reg mixed (by kernel_rfl) hS ?_
      refine sc (sg (sp_load ty24 (od rfl))) ?_
      refine sc (sg (sp_move (od rfl))) ?_
      refine sc (sg (sp_move (od rfl))) ?_
      refine sc (sg (sp_move (od rfl))) ?_
      refine sc (sg (sp_call en33 (f33_ok e_12) ⟨od rfl, od rfl, od rfl, od rfl, trivial⟩)) ?_
      refine sc (sg (sp_move (od rfl))) ?_
      refine sc (sg (sp_extract (od rfl) rfl)) ?_
      refine sc (sg (sp_extract (od rfl) rfl)) ?_
      refine sc (sg (sp_extract (od rfl) rfl)) ?_
      refine sc (sg (sp_assign (od rfl))) ?_
      refine sc (sg (sp_assign (od rfl))) ?_
      refine sc (sg (sp_assign (od rfl))) ?_
      refine sn fun a w hS => ?_
      refine exit_then ?_
      refine wp_seq ?_
      refine wp_seq ?_
      refine st_reg mixed (by kernel_rfl) hS ?_
      refine sc (sg (sp_move (od rfl))) ?_
      refine sc (sg (sp_neq (od rfl) (odi))) ?_
      refine sc (sg (sp_move (od rfl))) ?_
      refine sc (sgF rfl fun hG => sp_move (od rfl)) ?_
      refine sc (sgF rfl fun hG => sp_neq (odw rfl hG) (odi)) ?_
      refine sc (sg (sp_pickOr (od rfl) fun hg => odw rfl (not_t hg))) ?_
      refine sc (sg (sp_move (od rfl))) ?_
      refine sc (sgF rfl fun hG => sp_move (od rfl)) ?_
      refine sc (sgF rfl fun hG => sp_move (od rfl)) ?_
      refine sc (sgF rfl fun hG => sp_neq (odw rfl hG) (odw rfl hG)) ?_
      refine sc (sg (sp_pickOr (od rfl) fun hg => odw rfl (not_t hg))) ?_
      refine sc (sg (sp_move (od rfl))) ?_
      refine sc (sgF rfl fun hG => sp_move (od rfl)) ?_
      refine sc (sgF rfl fun hG => sp_move (od rfl)) ?_
      refine sc (sgF rfl fun hG => sp_neqB Try.underlying4 (odw rfl hG) (odw rfl hG)) ?_
      refine sc (sg (sp_pickOr (od rfl) fun hg => odw rfl (not_t hg))) ?_
      refine sn fun a w hS => ?_
      refine exit_then ?_
      refine st_cond hS rfl (fun hb => ?_) (fun hb => ?_)
      · have h := ite_t hb h
        refine wp_seq ?_
        refine st_reg mixed (by kernel_rfl) hS ?_
        refine sc (sg (sp_assign (odb))) ?_
        refine sn fun a w hS => ?_
        refine exit_then ?_
        refine wp_ret ?_
        refine exit_thenR ?_
        cases h
        exact st_ret hS (run_results1 Try.results5 a w) (hS.get rfl)
      · have h := ite_f hb h
        refine wp_skip ?_
        refine exit_then ?_
        refine wp_seq ?_
        obtain ⟨v_13, e_14, h⟩ := bind_some h
        refine st_reg mixed (by kernel_rfl) hS ?_
        refine sc (sg (sp_load ty24 (od rfl))) ?_
        refine sc (sg (sp_move (od rfl))) ?_
        refine sc (sg (sp_move (od rfl))) ?_
        refine sc (sg (sp_move (od rfl))) ?_
        refine sc (sg (sp_call en25 (f25_ok e_14) ⟨od rfl, od rfl, od rfl, od rfl, trivial⟩)) ?_
        refine sc (sg (sp_move (od rfl))) ?_
        refine sc (sg (sp_extract (od rfl) rfl)) ?_
        refine sc (sg (sp_extract (od rfl) rfl)) ?_
        refine sc (sg (sp_extract (od rfl) rfl)) ?_
        refine sc (sg (sp_assign (od rfl))) ?_
        refine sc (sg (sp_assign (od rfl))) ?_
        refine sc (sg (sp_assign (od rfl))) ?_
        refine sn fun a w hS => ?_
        refine exit_then ?_
        refine wp_seq ?_
        obtain ⟨v_15, e_16, h⟩ := bind_some h
        refine st_reg mixed (by kernel_rfl) hS ?_
        refine sc (sg (sp_load ty24 (od rfl))) ?_
        refine sc (sg (sp_move (od rfl))) ?_
        refine sc (sg (sp_move (od rfl))) ?_
        refine sc (sg (sp_move (od rfl))) ?_
        refine sc (sg (sp_call en25 (f25_ok e_16) ⟨od rfl, od rfl, od rfl, od rfl, trivial⟩)) ?_
        refine sc (sg (sp_move (od rfl))) ?_
        refine sc (sg (sp_extract (od rfl) rfl)) ?_
        refine sc (sg (sp_extract (od rfl) rfl)) ?_
        refine sc (sg (sp_extract (od rfl) rfl)) ?_
        refine sc (sg (sp_assign (od rfl))) ?_
        refine sc (sg (sp_assign (od rfl))) ?_
        refine sc (sg (sp_assign (od rfl))) ?_
        refine sn fun a w hS => ?_
        refine exit_then ?_
        refine wp_seq ?_
        refine wp_seq ?_
        obtain ⟨v_17, e_18, h⟩ := bind_some h
        refine st_reg mixed (by kernel_rfl) hS ?_
        refine sc (sg (sp_move (od rfl))) ?_
        refine sc (sg (sp_neq (od rfl) (odi))) ?_
        refine sc (sg (sp_move (od rfl))) ?_
        refine sc (sgF rfl fun hG => sp_move (od rfl)) ?_
        refine sc (sgF rfl fun hG => sp_neq (odw rfl hG) (odi)) ?_
        refine sc (sg (sp_pickOr (od rfl) fun hg => odw rfl (not_t hg))) ?_
        refine sc (sg (sp_move (od rfl))) ?_
        refine sc (sgF rfl fun hG => sp_move (od rfl)) ?_
        refine sc (sgF rfl fun hG => sp_move (od rfl)) ?_
        refine sc (sgF rfl fun hG => sp_call en24 (f24_ok (guard_some e_18 hG)) ⟨odw rfl hG, odw rfl hG, trivial⟩) ?_
        refine sc (sgF rfl fun hG => sp_not (odw rfl hG)) ?_
        refine sc (sg (sp_pickOr (od rfl) fun hg => odw rfl (not_t hg))) ?_
        refine sc (sg (sp_move (od rfl))) ?_
        refine sc (sgF rfl fun hG => sp_move (od rfl)) ?_
        refine sc (sgF rfl fun hG => sp_move (od rfl)) ?_
        refine sc (sgF rfl fun hG => sp_neqB Try.underlying4 (odw rfl hG) (odw rfl hG)) ?_
        refine sc (sg (sp_pickOr (od rfl) fun hg => odw rfl (not_t hg))) ?_
        refine sn fun a w hS => ?_
        refine exit_then ?_
        refine st_cond hS rfl (fun hb => ?_) (fun hb => ?_)
        · have h := ite_t hb h
          refine wp_seq ?_
          refine st_reg mixed (by kernel_rfl) hS ?_
          refine sc (sg (sp_assign (odb))) ?_
          refine sn fun a w hS => ?_
          refine exit_then ?_
          refine wp_ret ?_
          refine exit_thenR ?_
          cases h
          exact st_ret hS (run_results1 Try.results5 a w) (hS.get rfl)
        · have h := ite_f hb h
          refine wp_skip ?_
          refine exit_then ?_
          refine wp_seq ?_
          obtain ⟨v_19, e_20, h⟩ := bind_some h
          refine st_reg mixed (by kernel_rfl) hS ?_
          refine sc (sg (sp_load ty24 (od rfl))) ?_
          refine sc (sg (sp_move (od rfl))) ?_
          refine sc (sg (sp_call en27 (f27_ok e_20) ⟨od rfl, od rfl, trivial⟩)) ?_
          refine sc (sg (sp_move (od rfl))) ?_
          refine sc (sg (sp_extract (od rfl) rfl)) ?_
          refine sc (sg (sp_extract (od rfl) rfl)) ?_
          refine sc (sg (sp_extract (od rfl) rfl)) ?_
          refine sc (sg (sp_assign (od rfl))) ?_
          refine sc (sg (sp_assign (od rfl))) ?_
          refine sc (sg (sp_assign (od rfl))) ?_
          refine sn fun a w hS => ?_
          refine exit_then ?_
          refine wp_seq ?_
          obtain ⟨v_21, e_22, h⟩ := bind_some h
          refine st_reg mixed (by kernel_rfl) hS ?_
          refine sc (sg (sp_load ty24 (od rfl))) ?_
          refine sc (sg (sp_move (od rfl))) ?_
          refine sc (sg (sp_call en27 (f27_ok e_22) ⟨od rfl, od rfl, trivial⟩)) ?_
          refine sc (sg (sp_move (od rfl))) ?_
          refine sc (sg (sp_extract (od rfl) rfl)) ?_
          refine sc (sg (sp_extract (od rfl) rfl)) ?_
          refine sc (sg (sp_extract (od rfl) rfl)) ?_
          refine sc (sg (sp_assign (od rfl))) ?_
          refine sc (sg (sp_assign (od rfl))) ?_
          refine sc (sg (sp_assign (od rfl))) ?_
          refine sn fun a w hS => ?_
          refine exit_then ?_
          refine wp_seq ?_
          refine wp_seq ?_
          obtain ⟨v_23, e_24, h⟩ := bind_some h
          refine st_reg mixed (by kernel_rfl) hS ?_
          refine sc (sg (sp_move (od rfl))) ?_
          refine sc (sg (sp_neq (od rfl) (odi))) ?_
          refine sc (sg (sp_move (od rfl))) ?_
          refine sc (sgF rfl fun hG => sp_move (od rfl)) ?_
          refine sc (sgF rfl fun hG => sp_neq (odw rfl hG) (odi)) ?_
          refine sc (sg (sp_pickOr (od rfl) fun hg => odw rfl (not_t hg))) ?_
          refine sc (sg (sp_move (od rfl))) ?_
          refine sc (sgF rfl fun hG => sp_move (od rfl)) ?_
          refine sc (sgF rfl fun hG => sp_move (od rfl)) ?_
          refine sc (sgF rfl fun hG => sp_call en24 (f24_ok (guard_some e_24 hG)) ⟨odw rfl hG, odw rfl hG, trivial⟩) ?_
          refine sc (sgF rfl fun hG => sp_not (odw rfl hG)) ?_
          refine sc (sg (sp_pickOr (od rfl) fun hg => odw rfl (not_t hg))) ?_
          refine sc (sg (sp_move (od rfl))) ?_
          refine sc (sgF rfl fun hG => sp_move (od rfl)) ?_
          refine sc (sgF rfl fun hG => sp_move (od rfl)) ?_
          refine sc (sgF rfl fun hG => sp_neqB Try.underlying4 (odw rfl hG) (odw rfl hG)) ?_
          refine sc (sg (sp_pickOr (od rfl) fun hg => odw rfl (not_t hg))) ?_
          refine sn fun a w hS => ?_
          refine exit_then ?_
          refine st_cond hS rfl (fun hb => ?_) (fun hb => ?_)
          · have h := ite_t hb h
            refine wp_seq ?_
            refine st_reg mixed (by kernel_rfl) hS ?_
            refine sc (sg (sp_assign (odb))) ?_
            refine sn fun a w hS => ?_
            refine exit_then ?_
            refine wp_ret ?_
            refine exit_thenR ?_
            cases h
            exact st_ret hS (run_results1 Try.results5 a w) (hS.get rfl)
          · have h := ite_f hb h
            refine wp_skip ?_
            refine exit_then ?_
            refine wp_seq ?_
            refine wp_seq ?_
            refine st_reg mixed (by kernel_rfl) hS ?_
            refine sc (sg (sp_fieldAddr fd24_2 (od rfl))) ?_
            refine sc (sg (sp_load ty22 (od rfl))) ?_
            refine sc (sg (sp_len Try.underlying22 (od rfl))) ?_
            refine sc (sg (sp_gtr (od rfl) (odi))) ?_
            refine sn fun a w hS => ?_
            refine exit_then ?_
            refine st_cond hS rfl (fun hb => ?_) (fun hb => ?_)
            · have h := ite_t hb h
              refine wp_seq ?_
              obtain ⟨v_25, e_26, h⟩ := bind_some h
              refine st_reg mixed (by kernel_rfl) hS ?_
              refine sc (sg (sp_load ty24 (od rfl))) ?_
              refine sc (sg (sp_move (od rfl))) ?_
              refine sc (sg (sp_move (od rfl))) ?_
              refine sc (sg (sp_move (od rfl))) ?_
              refine sc (sg (sp_call en20 (f20_ok e_26) ⟨od rfl, od rfl, od rfl, od rfl, odi, trivial⟩)) ?_
              refine sc (sg (sp_move (od rfl))) ?_
              refine sc (sg (sp_extract (od rfl) rfl)) ?_
              refine sc (sg (sp_extract (od rfl) rfl)) ?_
              refine sc (sg (sp_extract (od rfl) rfl)) ?_
              refine sc (sg (sp_assign (od rfl))) ?_
              refine sc (sg (sp_assign (od rfl))) ?_
              refine sc (sg (sp_assign (od rfl))) ?_
              refine sn fun a w hS => ?_
              refine exit_then ?_
              refine wp_seq ?_
              obtain ⟨v_27, e_28, h⟩ := bind_some h
              refine st_reg mixed (by kernel_rfl) hS ?_
              refine sc (sg (sp_load ty24 (od rfl))) ?_
              refine sc (sg (sp_move (od rfl))) ?_
              refine sc (sg (sp_move (od rfl))) ?_
              refine sc (sg (sp_move (od rfl))) ?_
              refine sc (sg (sp_call en20 (f20_ok e_28) ⟨od rfl, od rfl, od rfl, od rfl, odi, trivial⟩)) ?_
              refine sc (sg (sp_move (od rfl))) ?_
              refine sc (sg (sp_extract (od rfl) rfl)) ?_
              refine sc (sg (sp_extract (od rfl) rfl)) ?_
              refine sc (sg (sp_extract (od rfl) rfl)) ?_
              refine sc (sg (sp_assign (od rfl))) ?_
              refine sc (sg (sp_assign (od rfl))) ?_
              refine sc (sg (sp_assign (od rfl))) ?_
              refine sn fun a w hS => ?_
              refine exit_then ?_
              refine wp_seq ?_
              refine st_reg mixed (by kernel_rfl) hS ?_
              refine sc (sg (sp_move (od rfl))) ?_
              refine sc (sg (sp_move (od rfl))) ?_
              refine sc (sg (sp_neq (od rfl) (od rfl))) ?_
              refine sc (sg (sp_move (od rfl))) ?_
              refine sc (sgF rfl fun hG => sp_move (od rfl)) ?_
              refine sc (sgF rfl fun hG => sp_move (od rfl)) ?_
              refine sc (sgF rfl fun hG => sp_neq (odw rfl hG) (odw rfl hG)) ?_
              refine sc (sg (sp_pickOr (od rfl) fun hg => odw rfl (not_t hg))) ?_
              refine sc (sg (sp_move (od rfl))) ?_
              refine sc (sgF rfl fun hG => sp_move (od rfl)) ?_
              refine sc (sgF rfl fun hG => sp_move (od rfl)) ?_
              refine sc (sgF rfl fun hG => sp_neqB Try.underlying4 (odw rfl hG) (odw rfl hG)) ?_
              refine sc (sg (sp_pickOr (od rfl) fun hg => odw rfl (not_t hg))) ?_
              refine sn fun a w hS => ?_
              refine exit_then ?_
              refine st_cond hS rfl (fun hb => ?_) (fun hb => ?_)
              · have h := ite_t hb h
                refine wp_seq ?_
                refine st_reg mixed (by kernel_rfl) hS ?_
                refine sc (sg (sp_assign (odb))) ?_
                refine sn fun a w hS => ?_
                refine exit_then ?_
                refine wp_ret ?_
                refine exit_thenR ?_
                cases h
                exact st_ret hS (run_results1 Try.results5 a w) (hS.get rfl)
              · have h := ite_f hb h
                refine wp_skip ?_
                refine exit_then ?_
                refine wp_seq ?_
                obtain ⟨v_29, e_30, h⟩ := bind_some h
                refine st_reg mixed (by kernel_rfl) hS ?_
                refine sc (sg (sp_load ty24 (od rfl))) ?_
                refine sc (sg (sp_move (od rfl))) ?_
                refine sc (sg (sp_call en34 (f34_ok e_30) ⟨od rfl, od rfl, trivial⟩)) ?_
                refine sc (sg (sp_move (od rfl))) ?_
                refine sc (sg (sp_extract (od rfl) rfl)) ?_
                refine sc (sg (sp_extract (od rfl) rfl)) ?_
                refine sc (sg (sp_assign (od rfl))) ?_
                refine sc (sg (sp_assign (od rfl))) ?_
                refine sn fun a w hS => ?_
                refine exit_then ?_
                refine wp_seq ?_
                obtain ⟨v_31, e_32, h⟩ := bind_some h
                refine st_reg mixed (by kernel_rfl) hS ?_
                refine sc (sg (sp_load ty24 (od rfl))) ?_
                refine sc (sg (sp_move (od rfl))) ?_
                refine sc (sg (sp_call en34 (f34_ok e_32) ⟨od rfl, od rfl, trivial⟩)) ?_
                refine sc (sg (sp_move (od rfl))) ?_
                refine sc (sg (sp_extract (od rfl) rfl)) ?_
                refine sc (sg (sp_extract (od rfl) rfl)) ?_
                refine sc (sg (sp_assign (od rfl))) ?_
                refine sc (sg (sp_assign (od rfl))) ?_
                refine sn fun a w hS => ?_
                refine exit_then ?_
                refine wp_seq ?_
                refine wp_seq ?_
                refine st_reg mixed (by kernel_rfl) hS ?_
                refine sc (sg (sp_move (od rfl))) ?_
                refine sc (sg (sp_neq (od rfl) (odi))) ?_
                refine sc (sg (sp_move (od rfl))) ?_
                refine sc (sgF rfl fun hG => sp_move (od rfl)) ?_
                refine sc (sgF rfl fun hG => sp_neq (odw rfl hG) (odi)) ?_
                refine sc (sg (sp_pickOr (od rfl) fun hg => odw rfl (not_t hg))) ?_
                refine sc (sg (sp_move (od rfl))) ?_
                refine sc (sgF rfl fun hG => sp_move (od rfl)) ?_
                refine sc (sgF rfl fun hG => sp_len Try.underlying44 (odw rfl hG)) ?_
                refine sc (sgF rfl fun hG => sp_fieldAddr fd24_0 (od rfl)) ?_
                refine sc (sgF rfl fun hG => sp_load ty3 (odw rfl hG)) ?_
                refine sc (sgF rfl fun hG => sp_neq (odw rfl hG) (odw rfl hG)) ?_
                refine sc (sg (sp_pickOr (od rfl) fun hg => odw rfl (not_t hg))) ?_
                refine sc (sg (sp_move (od rfl))) ?_
                refine sc (sgF rfl fun hG => sp_move (od rfl)) ?_
                refine sc (sgF rfl fun hG => sp_len Try.underlying44 (odw rfl hG)) ?_
                refine sc (sgF rfl fun hG => sp_fieldAddr fd24_0 (od rfl)) ?_
                refine sc (sgF rfl fun hG => sp_load ty3 (odw rfl hG)) ?_
                refine sc (sgF rfl fun hG => sp_neq (odw rfl hG) (odw rfl hG)) ?_
                refine sc (sg (sp_pickOr (od rfl) fun hg => odw rfl (not_t hg))) ?_
                refine sn fun a w hS => ?_
                refine exit_then ?_
                refine st_cond hS rfl (fun hb => ?_) (fun hb => ?_)
                · have h := ite_t hb h
                  refine wp_seq ?_
                  refine st_reg mixed (by kernel_rfl) hS ?_
                  refine sc (sg (sp_assign (odb))) ?_
                  refine sn fun a w hS => ?_
                  refine exit_then ?_
                  refine wp_ret ?_
                  refine exit_thenR ?_
                  cases h
                  exact st_ret hS (run_results1 Try.results5 a w) (hS.get rfl)
                · have h := ite_f hb h
                  refine wp_skip ?_
                  refine exit_then ?_
                  refine wp_seq ?_
                  obtain ⟨m_33, e_34, h⟩ := bind_some h
                  refine l_start ?_
                  refine s_c hS (sg (sp_move (od rfl))) rfl fun a w hS hM => ?_
                  refine s_callI en35 (f35_ok e_34) hS ⟨od rfl, trivial⟩ rfl fun a w u_35 x_36 hS hM => ?_
                  have hS : St _ F0 [Item.sl (α := List (Vector Int 2)) 48 u_35 m_33] _ w0 _ _ := hS
                  refine s_c hS (sg (sp_assign (od rfl))) rfl fun a w hS hM => ?_
                  refine l_end ?_
                  refine exit_then ?_
                  refine wp_seq ?_
                  have hS := st_os 0 30 hS rfl rfl
                  have hS := st_os 0 236 hS rfl rfl
                  obtain ⟨v_37, e_38, h⟩ := bind_some h
                  obtain ⟨v_39, e_40, h⟩ := bind_some h
                  obtain ⟨v_41, e_42, h⟩ := bind_some h
                  obtain ⟨z_43, e_44, h⟩ := bind_some h
                  obtain ⟨v_45, e_46, h⟩ := bind_some h
                  obtain ⟨z_47, e_48, h⟩ := bind_some h
                  refine st_float mixed [0, 0, 1, 1, 0, 0, 0, 0, 0, 0, 0, 0, 0, 2, 2, 2] (by kernel_rfl) (by kernel_rfl) hS ?_
                  refine sfA (sg (sp_move (od rfl))) ?_
                  refine sfA (sg (sp_move (od rfl))) ?_
                  refine sfF (sy (sy_move (od rfl))) ?_
                  refine sfF (sy (sy_move (od rfl))) ?_
                  refine sfA (sg (sp_move (od rfl))) ?_
                  refine sfA (sg (sp_move (od rfl))) ?_
                  refine sfA (sg (sp_indexAddrOS sl44 (od rfl) (od rfl) e_38)) ?_
                  refine sfA (sg (sp_loadEA ty48 (od rfl))) ?_
                  refine sfA (sg (sp_move (od rfl))) ?_
                  refine sfA (sg (sp_move (od rfl))) ?_
                  refine sfA (sg (sp_indexAddrOS sl44 (od rfl) (od rfl) e_40)) ?_
                  refine sfA (sg (sp_loadEA ty48 (od rfl))) ?_
                  refine sfA (sg (sp_indexAddrOS sl44 (od rfl) (od rfl) e_42)) ?_
                  refine sfT ?_
                  refine sfT ?_
                  refine sfT ?_
                  refine sfN fun c a w hS hC => ?_
                  refine ls ?_
                  refine s_storeEA (k := 0) (j := p2) (Δ := [(29, isV (α := List (List (Vector Int 2))) v_29.1), (30, Pr.is u_35), (239, Pr.is u_35), (240, isV (α := Int) p3), (244, isV (α := List (Vector Int 2)) v_37), (248, isV (α := List (Vector Int 2)) v_39), (249, isEP (List (Vector Int 2)) u_35 p2.toNat)]) ty48 hS rfl ⟨od rfl, odOS rfl, odOS rfl, od rfl, od rfl, od rfl, odEP rfl, trivial⟩ ⟨fun _ _ _ _ h => h, fun _ _ _ _ h => h, fun _ _ _ _ h => h, fun _ _ _ _ h => h, fun _ _ _ _ h => h, fun _ _ _ _ h => h, fun _ _ _ _ h => h, trivial⟩ (odEP rfl) (od rfl) e_44 fun w hS hM => ?_
                  have hS : St _ F0 [Item.sl (α := List (Vector Int 2)) 48 u_35 z_43] _ w0 _ _ := hS
                  have hC := Mem.le_trans hC hM
                  refine s_next hC ?_
                  refine ls ?_
                  have hS := st_os 0 30 hS rfl rfl
                  have hS := st_os 0 239 hS rfl rfl
                  refine s_c hS (sg (sp_indexAddrOS sl44 (od rfl) (od rfl) e_46)) rfl fun a w hS hM => ?_
                  have hC := Mem.le_trans hC hM
                  refine s_next hC ?_
                  refine ls ?_
                  refine s_storeEA (k := 0) (j := p3) (Δ := [(29, isV (α := List (List (Vector Int 2))) v_29.1), (30, Pr.is u_35), (248, isV (α := List (Vector Int 2)) v_39), (250, isEP (List (Vector Int 2)) u_35 p3.toNat)]) ty48 hS rfl ⟨od rfl, odOS rfl, od rfl, odEP rfl, trivial⟩ ⟨fun _ _ _ _ h => h, fun _ _ _ _ h => h, fun _ _ _ _ h => h, fun _ _ _ _ h => h, trivial⟩ (odEP rfl) (od rfl) e_48 fun w hS hM => ?_
                  have hS : St _ F0 [Item.sl (α := List (Vector Int 2)) 48 u_35 z_47] _ w0 _ _ := hS
                  have hC := Mem.le_trans hC hM
                  refine s_next hC ?_
                  refine s_done ?_
                  refine exit_then ?_
                  refine wp_seq ?_
                  have hS := st_freeze 0 30 hS rfl rfl
                  obtain ⟨v_49, e_50, h⟩ := bind_some h
                  refine st_reg mixed (by kernel_rfl) hS ?_
                  refine sc (sg (sp_move (od rfl))) ?_
                  refine sc (sg (sp_move (od rfl))) ?_
                  refine sc (sg (sp_call en36 (f36_ok e_50) ⟨od rfl, od rfl, trivial⟩)) ?_
                  refine sc (sg (sp_assign (od rfl))) ?_
                  refine sn fun a w hS => ?_
                  refine exit_then ?_
                  refine wp_ret ?_
                  cases h
                  exact st_ret hS (run_results1 Try.results5 a w) (hS.get rfl)
            · have h := ite_f hb h
              refine wp_skip ?_
              refine exit_then ?_
              refine wp_seq ?_
              obtain ⟨v_51, e_52, h⟩ := bind_some h
              refine st_reg mixed (by kernel_rfl) hS ?_
              refine sc (sg (sp_load ty24 (od rfl))) ?_
              refine sc (sg (sp_move (od rfl))) ?_
              refine sc (sg (sp_call en34 (f34_ok e_52) ⟨od rfl, od rfl, trivial⟩)) ?_
              refine sc (sg (sp_move (od rfl))) ?_
              refine sc (sg (sp_extract (od rfl) rfl)) ?_
              refine sc (sg (sp_extract (od rfl) rfl)) ?_
              refine sc (sg (sp_assign (od rfl))) ?_
              refine sc (sg (sp_assign (od rfl))) ?_
              refine sn fun a w hS => ?_
              refine exit_then ?_
              refine wp_seq ?_
              obtain ⟨v_53, e_54, h⟩ := bind_some h
              refine st_reg mixed (by kernel_rfl) hS ?_
              refine sc (sg (sp_load ty24 (od rfl))) ?_
              refine sc (sg (sp_move (od rfl))) ?_
              refine sc (sg (sp_call en34 (f34_ok e_54) ⟨od rfl, od rfl, trivial⟩)) ?_
              refine sc (sg (sp_move (od rfl))) ?_
              refine sc (sg (sp_extract (od rfl) rfl)) ?_
              refine sc (sg (sp_extract (od rfl) rfl)) ?_
              refine sc (sg (sp_assign (od rfl))) ?_
              refine sc (sg (sp_assign (od rfl))) ?_
              refine sn fun a w hS => ?_
              refine exit_then ?_
              refine wp_seq ?_
              refine wp_seq ?_
              refine st_reg mixed (by kernel_rfl) hS ?_
              refine sc (sg (sp_move (od rfl))) ?_
              refine sc (sg (sp_neq (od rfl) (odi))) ?_
              refine sc (sg (sp_move (od rfl))) ?_
              refine sc (sgF rfl fun hG => sp_move (od rfl)) ?_
              refine sc (sgF rfl fun hG => sp_neq (odw rfl hG) (odi)) ?_
              refine sc (sg (sp_pickOr (od rfl) fun hg => odw rfl (not_t hg))) ?_
              refine sc (sg (sp_move (od rfl))) ?_
              refine sc (sgF rfl fun hG => sp_move (od rfl)) ?_
              refine sc (sgF rfl fun hG => sp_len Try.underlying44 (odw rfl hG)) ?_
              refine sc (sgF rfl fun hG => sp_fieldAddr fd24_0 (od rfl)) ?_
              refine sc (sgF rfl fun hG => sp_load ty3 (odw rfl hG)) ?_
              refine sc (sgF rfl fun hG => sp_neq (odw rfl hG) (odw rfl hG)) ?_
              refine sc (sg (sp_pickOr (od rfl) fun hg => odw rfl (not_t hg))) ?_
              refine sc (sg (sp_move (od rfl))) ?_
              refine sc (sgF rfl fun hG => sp_move (od rfl)) ?_
              refine sc (sgF rfl fun hG => sp_len Try.underlying44 (odw rfl hG)) ?_
              refine sc (sgF rfl fun hG => sp_fieldAddr fd24_0 (od rfl)) ?_
              refine sc (sgF rfl fun hG => sp_load ty3 (odw rfl hG)) ?_
              refine sc (sgF rfl fun hG => sp_neq (odw rfl hG) (odw rfl hG)) ?_
              refine sc (sg (sp_pickOr (od rfl) fun hg => odw rfl (not_t hg))) ?_
              refine sn fun a w hS => ?_
              refine exit_then ?_
              refine st_cond hS rfl (fun hb => ?_) (fun hb => ?_)
              · have h := ite_t hb h
                refine wp_seq ?_
                refine st_reg mixed (by kernel_rfl) hS ?_
                refine sc (sg (sp_assign (odb))) ?_
                refine sn fun a w hS => ?_
                refine exit_then ?_
                refine wp_ret ?_
                refine exit_thenR ?_
                cases h
                exact st_ret hS (run_results1 Try.results5 a w) (hS.get rfl)
              · have h := ite_f hb h
                refine wp_skip ?_
                refine exit_then ?_
                refine wp_seq ?_
                obtain ⟨m_55, e_56, h⟩ := bind_some h
                refine l_start ?_
                refine s_c hS (sg (sp_move (od rfl))) rfl fun a w hS hM => ?_
                refine s_callI en35 (f35_ok e_56) hS ⟨od rfl, trivial⟩ rfl fun a w u_57 x_58 hS hM => ?_
                have hS : St _ F0 [Item.sl (α := List (Vector Int 2)) 48 u_57 m_55] _ w0 _ _ := hS
                refine s_c hS (sg (sp_assign (od rfl))) rfl fun a w hS hM => ?_
                refine l_end ?_
                refine exit_then ?_
                refine wp_seq ?_
                have hS := st_os 0 30 hS rfl rfl
                have hS := st_os 0 236 hS rfl rfl
                obtain ⟨v_59, e_60, h⟩ := bind_some h
                obtain ⟨v_61, e_62, h⟩ := bind_some h
                obtain ⟨v_63, e_64, h⟩ := bind_some h
                obtain ⟨z_65, e_66, h⟩ := bind_some h
                obtain ⟨v_67, e_68, h⟩ := bind_some h
                obtain ⟨z_69, e_70, h⟩ := bind_some h
                refine st_float mixed [0, 0, 1, 1, 0, 0, 0, 0, 0, 0, 0, 0, 0, 2, 2, 2] (by kernel_rfl) (by kernel_rfl) hS ?_
                refine sfA (sg (sp_move (od rfl))) ?_
                refine sfA (sg (sp_move (od rfl))) ?_
                refine sfF (sy (sy_move (od rfl))) ?_
                refine sfF (sy (sy_move (od rfl))) ?_
                refine sfA (sg (sp_move (od rfl))) ?_
                refine sfA (sg (sp_move (od rfl))) ?_
                refine sfA (sg (sp_indexAddrOS sl44 (od rfl) (od rfl) e_60)) ?_
                refine sfA (sg (sp_loadEA ty48 (od rfl))) ?_
                refine sfA (sg (sp_move (od rfl))) ?_
                refine sfA (sg (sp_move (od rfl))) ?_
                refine sfA (sg (sp_indexAddrOS sl44 (od rfl) (od rfl) e_62)) ?_
                refine sfA (sg (sp_loadEA ty48 (od rfl))) ?_
                refine sfA (sg (sp_indexAddrOS sl44 (od rfl) (od rfl) e_64)) ?_
                refine sfT ?_
                refine sfT ?_
                refine sfT ?_
                refine sfN fun c a w hS hC => ?_
                refine ls ?_
                refine s_storeEA (k := 0) (j := p2) (Δ := [(29, isV (α := List (List (Vector Int 2))) v_51.1), (30, Pr.is u_57), (239, Pr.is u_57), (240, isV (α := Int) p3), (244, isV (α := List (Vector Int 2)) v_59), (248, isV (α := List (Vector Int 2)) v_61), (249, isEP (List (Vector Int 2)) u_57 p2.toNat)]) ty48 hS rfl ⟨od rfl, odOS rfl, odOS rfl, od rfl, od rfl, od rfl, odEP rfl, trivial⟩ ⟨fun _ _ _ _ h => h, fun _ _ _ _ h => h, fun _ _ _ _ h => h, fun _ _ _ _ h => h, fun _ _ _ _ h => h, fun _ _ _ _ h => h, fun _ _ _ _ h => h, trivial⟩ (odEP rfl) (od rfl) e_66 fun w hS hM => ?_
                have hS : St _ F0 [Item.sl (α := List (Vector Int 2)) 48 u_57 z_65] _ w0 _ _ := hS
                have hC := Mem.le_trans hC hM
                refine s_next hC ?_
                refine ls ?_
                have hS := st_os 0 30 hS rfl rfl
                have hS := st_os 0 239 hS rfl rfl
                refine s_c hS (sg (sp_indexAddrOS sl44 (od rfl) (od rfl) e_68)) rfl fun a w hS hM => ?_
                have hC := Mem.le_trans hC hM
                refine s_next hC ?_
                refine ls ?_
                refine s_storeEA (k := 0) (j := p3) (Δ := [(29, isV (α := List (List (Vector Int 2))) v_51.1), (30, Pr.is u_57), (248, isV (α := List (Vector Int 2)) v_61), (250, isEP (List (Vector Int 2)) u_57 p3.toNat)]) ty48 hS rfl ⟨od rfl, odOS rfl, od rfl, odEP rfl, trivial⟩ ⟨fun _ _ _ _ h => h, fun _ _ _ _ h => h, fun _ _ _ _ h => h, fun _ _ _ _ h => h, trivial⟩ (odEP rfl) (od rfl) e_70 fun w hS hM => ?_
                have hS : St _ F0 [Item.sl (α := List (Vector Int 2)) 48 u_57 z_69] _ w0 _ _ := hS
                have hC := Mem.le_trans hC hM
                refine s_next hC ?_
                refine s_done ?_
                refine exit_then ?_
                refine wp_seq ?_
                have hS := st_freeze 0 30 hS rfl rfl
                obtain ⟨v_71, e_72, h⟩ := bind_some h
                refine st_reg mixed (by kernel_rfl) hS ?_
                refine sc (sg (sp_move (od rfl))) ?_
                refine sc (sg (sp_move (od rfl))) ?_
                refine sc (sg (sp_call en36 (f36_ok e_72) ⟨od rfl, od rfl, trivial⟩)) ?_
                refine sc (sg (sp_assign (od rfl))) ?_
                refine sn fun a w hS => ?_
                refine exit_then ?_
                refine wp_ret ?_
                cases h
                exact st_ret hS (run_results1 Try.results5 a w) (hS.get rfl)

end Go.Proofs.Ytkbilbeaedocjaa
