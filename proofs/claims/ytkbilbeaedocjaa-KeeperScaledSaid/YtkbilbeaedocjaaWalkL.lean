/-
  What is proved: each Go function named here returns what its model tells, and changes nothing that was there; where the model tells something.
-/
import Derived.Test.YtkbilbeaedocjaaWalkK
import Derived.Test.YtkbilbeaedocjaaModelL
set_option linter.unusedVariables false
set_option maxRecDepth 100000
namespace Go.Proofs.Ytkbilbeaedocjaa
open Go Go.RowKit Go.Proofs.Ytkbilbeaedocjaa.Wh

theorem f7_ok {fuel : Nat} {p0 : S_api_Market} {p1 : List Int} {p2 : Int} {p3 : Int} {p4 : Int} {p5 : Int} {p6 : Int} {r : Bool} (h : M.f7 fuel p0 p1 p2 p3 p4 p5 p6 = some r) : CallOK Try.prog 7 [isV p0, isV p1, isV p2, isV p3, isV p4, isV p5, isV p6] (isV r) := by
  unfold M.f7 at h
  refine callS_of Try.func7 rfl Try.ntmps7 rfl fun F0 w0 a hS => ?_
  refine wp_seq ?_
  refine st_reg mixed (by kernel_rfl) hS ?_
  refine sc (sg (sp_box (od rfl))) ?_
  refine sc (sg (sp_assign (odb))) ?_
  refine sn fun a w hS => ?_
  refine exit_then ?_
  refine wp_seq ?_
  refine wp_seq ?_
  obtain ⟨v_1, e_2, h⟩ := bind_some h
  refine st_reg mixed (by kernel_rfl) hS ?_
  refine sc (sg (sp_call en16 (f16_ok e_2) trivial)) ?_
  refine sc (sg (sp_not (od rfl))) ?_
  refine sn fun a w hS => ?_
  refine exit_then ?_
  refine st_cond hS rfl (fun hb => ?_) (fun hb => ?_)
  · have h := ite_t hb h
    refine wp_seq ?_
    refine st_reg mixed (by kernel_rfl) hS ?_
    refine sc (sg (sp_assign (odb))) ?_
    refine sn fun a w hS => ?_
    refine exit_then ?_
    refine wp_ret ?_
    refine exit_thenR ?_
    cases h
    exact st_ret hS (run_results1 Try.results7 a w) (hS.get rfl)
  · have h := ite_f hb h
    refine wp_skip ?_
    refine exit_then ?_
    refine wp_seq ?_
    refine wp_seq ?_
    obtain ⟨v_3, e_4, h⟩ := bind_some h
    refine st_reg mixed (by kernel_rfl) hS ?_
    refine sc (sg (sp_load ty24 (od rfl))) ?_
    refine sc (sg (sp_move (od rfl))) ?_
    refine sc (sg (sp_move (od rfl))) ?_
    refine sc (sg (sp_move (od rfl))) ?_
    refine sc (sg (sp_buildSlice [.tmp 48, .tmp 49] ([p2, p3] : List Int) sl27 ze3 rfl rfl rfl rfl ⟨od rfl, od rfl, trivial⟩)) ?_
    refine sc (sg (sp_call en31 (f31_ok e_4) ⟨od rfl, od rfl, od rfl, trivial⟩)) ?_
    refine sc (sg (sp_not (od rfl))) ?_
    refine sc (sg (sp_move (od rfl))) ?_
    refine sc (sgF rfl fun hG => sp_move (od rfl)) ?_
    refine sc (sgF rfl fun hG => sp_lss (odw rfl hG) (odi)) ?_
    refine sc (sg (sp_pickOr (od rfl) fun hg => odw rfl (not_t hg))) ?_
    refine sc (sg (sp_move (od rfl))) ?_
    refine sc (sgF rfl fun hG => sp_move (od rfl)) ?_
    refine sc (sgF rfl fun hG => sp_gtr (odw rfl hG) (odi)) ?_
    refine sc (sg (sp_pickOr (od rfl) fun hg => odw rfl (not_t hg))) ?_
    refine sc (sg (sp_move (od rfl))) ?_
    refine sc (sgF rfl fun hG => sp_move (od rfl)) ?_
    refine sc (sgF rfl fun hG => sp_lss (odw rfl hG) (odi)) ?_
    refine sc (sg (sp_pickOr (od rfl) fun hg => odw rfl (not_t hg))) ?_
    refine sc (sg (sp_move (od rfl))) ?_
    refine sc (sgF rfl fun hG => sp_move (od rfl)) ?_
    refine sc (sgF rfl fun hG => sp_gtr (odw rfl hG) (odi)) ?_
    refine sc (sg (sp_pickOr (od rfl) fun hg => odw rfl (not_t hg))) ?_
    refine sc (sg (sp_move (od rfl))) ?_
    refine sc (sgF rfl fun hG => sp_move (od rfl)) ?_
    refine sc (sgF rfl fun hG => sp_lss (odw rfl hG) (odi)) ?_
    refine sc (sg (sp_pickOr (od rfl) fun hg => odw rfl (not_t hg))) ?_
    refine sc (sg (sp_move (od rfl))) ?_
    refine sc (sgF rfl fun hG => sp_move (od rfl)) ?_
    refine sc (sgF rfl fun hG => sp_fieldAddr fd24_2 (od rfl)) ?_
    refine sc (sgF rfl fun hG => sp_load ty22 (odw rfl hG)) ?_
    refine sc (sgF rfl fun hG => sp_len Try.underlying22 (odw rfl hG)) ?_
    refine sc (sgF rfl fun hG => sp_geq (odw rfl hG) (odw rfl hG)) ?_
    refine sc (sg (sp_pickOr (od rfl) fun hg => odw rfl (not_t hg))) ?_
    refine sn fun a w hS => ?_
    refine exit_then ?_
    refine st_cond hS rfl (fun hb => ?_) (fun hb => ?_)
    · have h := ite_t hb h
      refine wp_seq ?_
      refine st_reg mixed (by kernel_rfl) hS ?_
      refine sc (sg (sp_assign (odb))) ?_
      refine sn fun a w hS => ?_
      refine exit_then ?_
      refine wp_ret ?_
      refine exit_thenR ?_
      cases h
      exact st_ret hS (run_results1 Try.results7 a w) (hS.get rfl)
    · have h := ite_f hb h
      refine wp_skip ?_
      refine exit_then ?_
      refine wp_seq ?_
      have hS := hS.weak (Δ := [(0, isV (α := S_api_Market) p0), (1, isV (α := List Int) p1), (2, isV (α := Int) p2), (3, isV (α := Int) p3), (4, isV (α := Int) p4), (5, isV (α := Int) p5), (6, isV (α := Int) p6), (7, isA (α := S_api_Market) p0), (14, isV (α := Bool) false), (44, isV (α := Bool) v_1), (45, isV (α := Bool) (!v_1)), (46, isV (α := S_api_Market) p0), (47, isV (α := List Int) p1), (48, isV (α := Int) p2), (49, isV (α := Int) p3), (50, isV (α := List Int) ([p2, p3] : List Int)), (51, isV (α := Bool) v_3), (52, isV (α := Bool) (!v_3)), (53, isV (α := Bool) (!v_3)), (56, isV (α := Bool) ((!v_3) || (decide (p4 < 0)))), (57, isV (α := Bool) ((!v_3) || (decide (p4 < 0)))), (60, isV (α := Bool) (((!v_3) || (decide (p4 < 0))) || (decide (16777216 < p4)))), (61, isV (α := Bool) (((!v_3) || (decide (p4 < 0))) || (decide (16777216 < p4)))), (64, isV (α := Bool) ((((!v_3) || (decide (p4 < 0))) || (decide (16777216 < p4))) || (decide (p6 < 1)))), (65, isV (α := Bool) ((((!v_3) || (decide (p4 < 0))) || (decide (16777216 < p4))) || (decide (p6 < 1)))), (68, isV (α := Bool) (((((!v_3) || (decide (p4 < 0))) || (decide (16777216 < p4))) || (decide (p6 < 1))) || (decide (1000 < p6)))), (69, isV (α := Bool) (((((!v_3) || (decide (p4 < 0))) || (decide (16777216 < p4))) || (decide (p6 < 1))) || (decide (1000 < p6)))), (72, isV (α := Bool) ((((((!v_3) || (decide (p4 < 0))) || (decide (16777216 < p4))) || (decide (p6 < 1))) || (decide (1000 < p6))) || (decide (p5 < 0)))), (73, isV (α := Bool) ((((((!v_3) || (decide (p4 < 0))) || (decide (16777216 < p4))) || (decide (p6 < 1))) || (decide (1000 < p6))) || (decide (p5 < 0)))), (79, isV (α := Bool) (((((((!v_3) || (decide (p4 < 0))) || (decide (16777216 < p4))) || (decide (p6 < 1))) || (decide (1000 < p6))) || (decide (p5 < 0))) || (decide ((p0.2.2.length : Int) ≤ p5))))]) ⟨od rfl, od rfl, od rfl, od rfl, od rfl, od rfl, od rfl, od rfl, od rfl, od rfl, od rfl, od rfl, od rfl, od rfl, od rfl, od rfl, od rfl, od rfl, od rfl, od rfl, od rfl, od rfl, od rfl, od rfl, od rfl, od rfl, od rfl, od rfl, od rfl, od rfl, trivial⟩
      refine st_pairs mixed [0, 0, 0, 0, 0, 0, 0, 0, 3, 3, 4, 4] [⟨8, 10, 15, 24, Int × Raw × Raw, inferInstance, (((0 : Int), (Raw.mk (.slice none 0 0)), (Raw.mk (.slice none 0 0))) : Int × Raw × Raw), (p0.1, (Raw.mk (.slice none 0 0)), (Raw.mk (.slice none 0 0)))⟩, ⟨9, 11, 16, 24, Int × (List S_api_Offer) × Raw, inferInstance, (((0 : Int), ([] : List S_api_Offer), (Raw.mk (.slice none 0 0))) : Int × (List S_api_Offer) × Raw), (p0.1, p0.2.1, (Raw.mk (.slice none 0 0)))⟩] (by kernel_rfl) (by kernel_rfl) hS ⟨fun _ _ _ _ h => h, fun _ _ _ _ h => h, fun _ _ _ _ h => h, fun _ _ _ _ h => h, fun _ _ _ _ h => h, fun _ _ _ _ h => h, fun _ _ _ _ h => h, fun _ _ _ _ h => h, fun _ _ _ _ h => h, fun _ _ _ _ h => h, fun _ _ _ _ h => h, fun _ _ _ _ h => h, fun _ _ _ _ h => h, fun _ _ _ _ h => h, fun _ _ _ _ h => h, fun _ _ _ _ h => h, fun _ _ _ _ h => h, fun _ _ _ _ h => h, fun _ _ _ _ h => h, fun _ _ _ _ h => h, fun _ _ _ _ h => h, fun _ _ _ _ h => h, fun _ _ _ _ h => h, fun _ _ _ _ h => h, fun _ _ _ _ h => h, fun _ _ _ _ h => h, fun _ _ _ _ h => h, fun _ _ _ _ h => h, fun _ _ _ _ h => h, fun _ _ _ _ h => h, trivial⟩ ?_
      refine sq0 (fun _ _ _ _ h => h) (sg (sp_fieldAddr fd24_0 (od rfl))) ?_
      refine sq0 (fun _ _ _ _ h => h) (sg (sp_load ty3 (od rfl))) ?_
      refine sq0 (fun _ _ _ _ h => h) (sg (bdR24_0_12 (od rfl))) ?_
      refine sq0 (fun _ _ _ _ h => h) (sg (sp_fieldAddr fd24_0 (od rfl))) ?_
      refine sq0 (fun _ _ _ _ h => h) (sg (sp_load ty3 (od rfl))) ?_
      refine sq0 (fun _ _ _ _ h => h) (sg (sp_fieldAddr fd24_1 (od rfl))) ?_
      refine sq0 (fun _ _ _ _ h => h) (sg (sp_load ty22 (od rfl))) ?_
      refine sq0 (fun _ _ _ _ h => h) (sg (bdR24_01_2 (od rfl) (od rfl))) ?_
      refine sqA 0 rfl ziR24_12 ?_
      refine sqA 1 rfl ziR24_2 ?_
      refine sqS 0 rfl tyR24_12 (od rfl) ?_
      refine sqS 1 rfl tyR24_2 (od rfl) ?_
      refine sqN fun a w bs hl hS => ?_
      obtain ⟨b_5, b_6, rfl⟩ := len2 hl
      have hS : St _ F0 [Item.box (α := Int × Raw × Raw) 24 b_5 (p0.1, (Raw.mk (.slice none 0 0)), (Raw.mk (.slice none 0 0))), Item.box (α := Int × (List S_api_Offer) × Raw) 24 b_6 (p0.1, p0.2.1, (Raw.mk (.slice none 0 0)))] ((15, Pr.ptr b_5) :: (16, Pr.ptr b_6) :: _) w0 _ _ := hS
      have hS := st_nil (α := S_api_Offer) 59 hS
      have hS := st_nil (α := S_api_Offer) 59 hS
      have hS : St _ F0 [Item.box (α := Int × Raw × Raw) 24 b_5 (p0.1, (Raw.mk (.slice none 0 0)), (Raw.mk (.slice none 0 0))), Item.box (α := Int × (List S_api_Offer) × Raw) 24 b_6 (p0.1, p0.2.1, (Raw.mk (.slice none 0 0))), Item.sl (α := S_api_Offer) 59 (.slice none 0 0) ([] : List S_api_Offer), Item.sl (α := S_api_Offer) 59 (.slice none 0 0) ([] : List S_api_Offer)] _ w0 _ _ := hS
      have hS := st_nil (α := S_api_Offer) 59 hS
      have hS : St _ F0 [Item.box (α := Int × Raw × Raw) 24 b_5 (p0.1, (Raw.mk (.slice none 0 0)), (Raw.mk (.slice none 0 0))), Item.box (α := Int × (List S_api_Offer) × Raw) 24 b_6 (p0.1, p0.2.1, (Raw.mk (.slice none 0 0))), Item.sl (α := S_api_Offer) 59 (.slice none 0 0) ([] : List S_api_Offer), Item.sl (α := S_api_Offer) 59 (.slice none 0 0) ([] : List S_api_Offer), Item.sl (α := S_api_Offer) 59 (.slice none 0 0) ([] : List S_api_Offer)] _ w0 _ _ := hS
      refine exit_then ?_
      refine wp_seq ?_
      refine wp_seq ?_
      refine st_reg mixed (by kernel_rfl) hS ?_
      refine sc (sg (sp_fieldAddr fd24_1 (od rfl))) ?_
      refine sc (sg (sp_load ty22 (od rfl))) ?_
      refine sc (sg (sp_len Try.underlying22 (od rfl))) ?_
      refine sc (sg (sp_move (odi))) ?_
      refine sn fun a w hS => ?_
      refine exit_then ?_
      refine wp_block ?_
      obtain ⟨o_10, e_11, hr_12⟩ := bind_some h
      refine c_loop (fun K a w => ∃ k i_7 s_9, ∃ u_13 : Value, K = k + 1 ∧ ForT _ _ _ o_10 k i_7 s_9 ∧ St 326 F0 [Item.box (α := Int × Raw × Raw) 24 b_5 (p0.1, (Raw.mk u_13), (Raw.mk (.slice none 0 0))), Item.box (α := Int × (List S_api_Offer) × Raw) 24 b_6 (p0.1, p0.2.1, (Raw.mk (.slice none 0 0))), Item.sl (α := S_api_Offer) 59 u_13 s_9, Item.sl (α := S_api_Offer) 59 (.slice none 0 0) ([] : List S_api_Offer), Item.sl (α := S_api_Offer) 59 (.slice none 0 0) ([] : List S_api_Offer)] [(1, isV (α := List Int) p1), (2, isV (α := Int) p2), (3, isV (α := Int) p3), (4, isV (α := Int) p4), (5, isV (α := Int) p5), (6, isV (α := Int) p6), (7, isA (α := S_api_Market) p0), (15, Pr.ptr b_5), (16, Pr.ptr b_6), (89, isV (α := List S_api_Offer) p0.2.1), (90, isV (α := Int) (p0.2.1.length : Int)), (91, isV (α := Int) i_7)] w0 a w) ?_ ?_ ⟨_, _, _, (.slice none 0 0), rfl, fors_init e_11, hS.weak ⟨od rfl, od rfl, od rfl, od rfl, od rfl, od rfl, od rfl, od rfl, od rfl, od rfl, od rfl, od rfl, trivial⟩⟩
      · rintro a w ⟨_, _, _, _, hk, _⟩; cases hk
      rintro K a w ⟨k_10, i_7, s_9, u_13, hk, hF_10, hS⟩
      obtain rfl := Nat.succ.inj hk
      refine wp_seq ?_
      refine st_reg mixed (by kernel_rfl) hS ?_
      refine sc (sg (sp_lss (od rfl) (od rfl))) ?_
      refine sn fun a w hS => ?_
      refine exit_then ?_
      refine wp_seq ?_
      refine st_cond hS rfl (fun hb => ?_) (fun hb => ?_)
      · refine wp_skip ?_
        refine exit_then ?_
        obtain ⟨k_10, s', rfl, h, hF_10, hw_10⟩ := fors_more hF_10 hb
        refine wp_seq ?_
        refine wp_block ?_
        refine wp_seq ?_
        obtain ⟨v_14, e_15, h⟩ := bind_some h
        refine l_start ?_
        refine s_c hS (sg (sp_indexAddr sl22 (od rfl) (od rfl) e_15)) rfl fun a w hS hM => ?_
        refine s_c hS (sg (sp_load ty59 (od rfl))) rfl fun a w hS hM => ?_
        refine s_allocStore ze59 hS (od rfl) (fun k hk => by cases hk; rfl) rfl fun a w hS hM => ?_
        refine l_end ?_
        refine exit_then ?_
        obtain ⟨z_16, e_17, h⟩ := bind_some h
        refine l_start ?_
        have hS := st_box 0 15 hS rfl rfl
        refine s_c hS (sg (sp_fieldAddrB fdR24_12_1 (odB rfl))) rfl fun a w hS hM => ?_
        refine s_c hS (sg (sp_loadRaw tyR22_w (od rfl))) rfl fun a w hS hM => ?_
        refine s_c hS (sg (sp_fieldAddr fd59_0 (od rfl))) rfl fun a w hS hM => ?_
        refine s_c hS (sg (sp_load ty3 (od rfl))) rfl fun a w hS hM => ?_
        refine s_c hS (sg (sp_fieldAddr fd59_1 (od rfl))) rfl fun a w hS hM => ?_
        refine s_c hS (sg (sp_load ty3 (od rfl))) rfl fun a w hS hM => ?_
        refine s_c hS (sg (sp_fieldAddr fd59_3 (od rfl))) rfl fun a w hS hM => ?_
        refine s_c hS (sg (sp_load ty3 (od rfl))) rfl fun a w hS hM => ?_
        refine s_c hS (sg (sp_move (od rfl))) rfl fun a w hS hM => ?_
        refine s_c hS (sg (sp_mul (od rfl) (od rfl))) rfl fun a w hS hM => ?_
        refine s_c hS (sg (bd59_013 (od rfl) (od rfl) (od rfl))) rfl fun a w hS hM => ?_
        refine s_c hS (sg (sp_buildSlice [.tmp 105] ([((v_14.1, v_14.2.1, 0, (wr (v_14.2.2.2 * p6))) : S_api_Offer)] : List S_api_Offer) sl22 ze59 rfl rfl rfl rfl ⟨od rfl, trivial⟩)) rfl fun a w hS hM => ?_
        refine s_append (k := 2) (Δ := [(1, isV (α := List Int) p1), (2, isV (α := Int) p2), (3, isV (α := Int) p3), (4, isV (α := Int) p4), (5, isV (α := Int) p5), (6, isV (α := Int) p6), (7, isA (α := S_api_Market) p0), (15, Pr.ptr b_5), (16, Pr.ptr b_6), (89, isV (α := List S_api_Offer) p0.2.1), (90, isV (α := Int) (p0.2.1.length : Int)), (91, isV (α := Int) i_7), (96, Pr.is u_13), (106, isV (α := List S_api_Offer) ([((v_14.1, v_14.2.1, 0, (wr (v_14.2.2.2 * p6))) : S_api_Offer)] : List S_api_Offer))]) sl22 ze59 hS rfl ⟨od rfl, od rfl, od rfl, od rfl, od rfl, od rfl, od rfl, odBx rfl, od rfl, od rfl, od rfl, od rfl, od rfl, od rfl, trivial⟩ ⟨fun _ _ _ _ h => h, fun _ _ _ _ h => h, fun _ _ _ _ h => h, fun _ _ _ _ h => h, fun _ _ _ _ h => h, fun _ _ _ _ h => h, fun _ _ _ _ h => h, fun _ _ _ _ h => h, fun _ _ _ _ h => h, fun _ _ _ _ h => h, fun _ _ _ _ h => h, fun _ _ _ _ h => h, fun _ _ _ _ h => h, fun _ _ _ _ h => h, trivial⟩ (od rfl) (od rfl) e_17 rfl fun a w u_18 hS hM => ?_
        have hS : St _ F0 [Item.box (α := Int × Raw × Raw) 24 b_5 (p0.1, (Raw.mk u_13), (Raw.mk (.slice none 0 0))), Item.box (α := Int × (List S_api_Offer) × Raw) 24 b_6 (p0.1, p0.2.1, (Raw.mk (.slice none 0 0))), Item.sl (α := S_api_Offer) 59 u_18 z_16, Item.sl (α := S_api_Offer) 59 (.slice none 0 0) ([] : List S_api_Offer), Item.sl (α := S_api_Offer) 59 (.slice none 0 0) ([] : List S_api_Offer)] _ w0 _ _ := hS
        refine s_c hS (sg (sp_fieldAddrP fo24_1 (od rfl))) rfl fun a w hS hM => ?_
        refine s_storeP (k := 0) (off := 1) (Δ := [(1, isV (α := List Int) p1), (2, isV (α := Int) p2), (3, isV (α := Int) p3), (4, isV (α := Int) p4), (5, isV (α := Int) p5), (6, isV (α := Int) p6), (7, isA (α := S_api_Market) p0), (15, Pr.ptr b_5), (16, Pr.ptr b_6), (89, isV (α := List S_api_Offer) p0.2.1), (90, isV (α := Int) (p0.2.1.length : Int)), (91, isV (α := Int) i_7), (107, Pr.is u_18), (108, Pr.is (.pointer (some ⟨b_5, 1, none⟩)))]) tyR22_w hS rfl ⟨od rfl, od rfl, od rfl, od rfl, od rfl, od rfl, od rfl, od rfl, od rfl, od rfl, od rfl, od rfl, od rfl, od rfl, trivial⟩ ⟨fun _ _ _ _ h => h, fun _ _ _ _ h => h, fun _ _ _ _ h => h, fun _ _ _ _ h => h, fun _ _ _ _ h => h, fun _ _ _ _ h => h, fun _ _ _ _ h => h, fun _ _ _ _ h => h, fun _ _ _ _ h => h, fun _ _ _ _ h => h, fun _ _ _ _ h => h, fun _ _ _ _ h => h, fun _ _ _ _ h => h, fun _ _ _ _ h => h, trivial⟩ (od rfl) (odRaw (od rfl) (hS.one (k := 2) rfl)) sf24_12_1 fun w hS hM => ?_
        have hS : St _ F0 [Item.box (α := Int × Raw × Raw) 24 b_5 (p0.1, (Raw.mk u_18), (Raw.mk (.slice none 0 0))), Item.box (α := Int × (List S_api_Offer) × Raw) 24 b_6 (p0.1, p0.2.1, (Raw.mk (.slice none 0 0))), Item.sl (α := S_api_Offer) 59 u_18 z_16, Item.sl (α := S_api_Offer) 59 (.slice none 0 0) ([] : List S_api_Offer), Item.sl (α := S_api_Offer) 59 (.slice none 0 0) ([] : List S_api_Offer)] _ w0 _ _ := hS
        refine l_end ?_
        refine exit_block ?_
        refine exit_then ?_
        refine st_reg mixed (by kernel_rfl) hS ?_
        refine sc (sg (sp_add (od rfl) (odi))) ?_
        refine sc (sg (sp_move (od rfl))) ?_
        refine sn fun a w hS => ?_
        cases h
        exact ⟨k_10, _, _, u_18, rfl, hF_10, hS.weak ⟨od rfl, od rfl, od rfl, od rfl, od rfl, od rfl, od rfl, od rfl, od rfl, od rfl, od rfl, od (congrArg (fun z => some (isV (α := Int) z)) hw_10), trivial⟩⟩
      · refine wp_exit ?_
        obtain rfl := (fors_done hF_10 hb).symm
        have h := hr_12
        refine exit_thenE ?_
        refine exit_thenE ?_
        refine exit_here ?_
        refine exit_then ?_
        refine wp_seq ?_
        refine wp_seq ?_
        refine st_reg mixed (by kernel_rfl) hS ?_
        refine sc (sg (sp_fieldAddr fd24_2 (od rfl))) ?_
        refine sc (sg (sp_load ty22 (od rfl))) ?_
        refine sc (sg (sp_len Try.underlying22 (od rfl))) ?_
        refine sc (sg (sp_move (odi))) ?_
        refine sn fun a w hS => ?_
        refine exit_then ?_
        refine wp_block ?_
        obtain ⟨o_22, e_23, hr_24⟩ := bind_some h
        refine c_loop (fun K a w => ∃ k i_19 s_21, ∃ u_25 : Value, ∃ u_26 : Value, K = k + 1 ∧ ForT _ _ _ o_22 k i_19 s_21 ∧ St 326 F0 [Item.box (α := Int × Raw × Raw) 24 b_5 (p0.1, (Raw.mk u_13), (Raw.mk u_25)), Item.box (α := Int × (List S_api_Offer) × Raw) 24 b_6 (p0.1, p0.2.1, (Raw.mk u_26)), Item.sl (α := S_api_Offer) 59 u_13 s_9, Item.sl (α := S_api_Offer) 59 u_25 s_21.1, Item.sl (α := S_api_Offer) 59 u_26 s_21.2] [(1, isV (α := List Int) p1), (2, isV (α := Int) p2), (3, isV (α := Int) p3), (4, isV (α := Int) p4), (5, isV (α := Int) p5), (6, isV (α := Int) p6), (7, isA (α := S_api_Market) p0), (15, Pr.ptr b_5), (16, Pr.ptr b_6), (111, isV (α := List S_api_Offer) p0.2.2), (112, isV (α := Int) (p0.2.2.length : Int)), (113, isV (α := Int) i_19)] w0 a w) ?_ ?_ ⟨_, _, _, (.slice none 0 0), (.slice none 0 0), rfl, fors_init e_23, hS.weak ⟨od rfl, od rfl, od rfl, od rfl, od rfl, od rfl, od rfl, od rfl, od rfl, od rfl, od rfl, od rfl, trivial⟩⟩
        · rintro a w ⟨_, _, _, _, _, hk, _⟩; cases hk
        rintro K a w ⟨k_22, i_19, s_21, u_25, u_26, hk, hF_22, hS⟩
        obtain rfl := Nat.succ.inj hk
        refine wp_seq ?_
        refine st_reg mixed (by kernel_rfl) hS ?_
        refine sc (sg (sp_lss (od rfl) (od rfl))) ?_
        refine sn fun a w hS => ?_
        refine exit_then ?_
        refine wp_seq ?_
        refine st_cond hS rfl (fun hb => ?_) (fun hb => ?_)
        · refine wp_skip ?_
          refine exit_then ?_
          obtain ⟨k_22, s', rfl, h, hF_22, hw_22⟩ := fors_more hF_22 hb
          refine wp_seq ?_
          refine wp_block ?_
          refine wp_seq ?_
          obtain ⟨v_27, e_28, h⟩ := bind_some h
          refine l_start ?_
          refine s_c hS (sg (sp_indexAddr sl22 (od rfl) (od rfl) e_28)) rfl fun a w hS hM => ?_
          refine s_c hS (sg (sp_load ty59 (od rfl))) rfl fun a w hS hM => ?_
          refine s_allocStore ze59 hS (od rfl) (fun k hk => by cases hk; rfl) rfl fun a w hS hM => ?_
          refine l_end ?_
          refine exit_then ?_
          refine wp_seq ?_
          obtain ⟨z_29, e_30, h⟩ := bind_some h
          refine l_start ?_
          have hS := st_box 0 15 hS rfl rfl
          refine s_c hS (sg (sp_fieldAddrB fdR24_12_2 (odB rfl))) rfl fun a w hS hM => ?_
          refine s_c hS (sg (sp_loadRaw tyR22_w (od rfl))) rfl fun a w hS hM => ?_
          refine s_c hS (sg (sp_fieldAddr fd59_0 (od rfl))) rfl fun a w hS hM => ?_
          refine s_c hS (sg (sp_load ty3 (od rfl))) rfl fun a w hS hM => ?_
          refine s_c hS (sg (sp_fieldAddr fd59_1 (od rfl))) rfl fun a w hS hM => ?_
          refine s_c hS (sg (sp_load ty3 (od rfl))) rfl fun a w hS hM => ?_
          refine s_c hS (sg (sp_fieldAddr fd59_2 (od rfl))) rfl fun a w hS hM => ?_
          refine s_c hS (sg (sp_load ty3 (od rfl))) rfl fun a w hS hM => ?_
          refine s_c hS (sg (sp_fieldAddr fd59_3 (od rfl))) rfl fun a w hS hM => ?_
          refine s_c hS (sg (sp_load ty3 (od rfl))) rfl fun a w hS hM => ?_
          refine s_c hS (sg (sp_move (od rfl))) rfl fun a w hS hM => ?_
          refine s_c hS (sg (sp_mul (od rfl) (od rfl))) rfl fun a w hS hM => ?_
          refine s_c hS (sg (bd59_0123 (od rfl) (od rfl) (od rfl) (od rfl))) rfl fun a w hS hM => ?_
          refine s_c hS (sg (sp_buildSlice [.tmp 129] ([((v_27.1, v_27.2.1, v_27.2.2.1, (wr (v_27.2.2.2 * p6))) : S_api_Offer)] : List S_api_Offer) sl22 ze59 rfl rfl rfl rfl ⟨od rfl, trivial⟩)) rfl fun a w hS hM => ?_
          refine s_append (k := 3) (Δ := [(1, isV (α := List Int) p1), (2, isV (α := Int) p2), (3, isV (α := Int) p3), (4, isV (α := Int) p4), (5, isV (α := Int) p5), (6, isV (α := Int) p6), (7, isA (α := S_api_Market) p0), (15, Pr.ptr b_5), (16, Pr.ptr b_6), (20, isA (α := S_api_Offer) v_27), (111, isV (α := List S_api_Offer) p0.2.2), (112, isV (α := Int) (p0.2.2.length : Int)), (113, isV (α := Int) i_19), (118, Pr.is u_25), (130, isV (α := List S_api_Offer) ([((v_27.1, v_27.2.1, v_27.2.2.1, (wr (v_27.2.2.2 * p6))) : S_api_Offer)] : List S_api_Offer))]) sl22 ze59 hS rfl ⟨od rfl, od rfl, od rfl, od rfl, od rfl, od rfl, od rfl, odBx rfl, od rfl, od rfl, od rfl, od rfl, od rfl, od rfl, od rfl, trivial⟩ ⟨fun _ _ _ _ h => h, fun _ _ _ _ h => h, fun _ _ _ _ h => h, fun _ _ _ _ h => h, fun _ _ _ _ h => h, fun _ _ _ _ h => h, fun _ _ _ _ h => h, fun _ _ _ _ h => h, fun _ _ _ _ h => h, fun _ _ _ _ h => h, fun _ _ _ _ h => h, fun _ _ _ _ h => h, fun _ _ _ _ h => h, fun _ _ _ _ h => h, fun _ _ _ _ h => h, trivial⟩ (od rfl) (od rfl) e_30 rfl fun a w u_31 hS hM => ?_
          have hS : St _ F0 [Item.box (α := Int × Raw × Raw) 24 b_5 (p0.1, (Raw.mk u_13), (Raw.mk u_25)), Item.box (α := Int × (List S_api_Offer) × Raw) 24 b_6 (p0.1, p0.2.1, (Raw.mk u_26)), Item.sl (α := S_api_Offer) 59 u_13 s_9, Item.sl (α := S_api_Offer) 59 u_31 z_29, Item.sl (α := S_api_Offer) 59 u_26 s_21.2] _ w0 _ _ := hS
          refine s_c hS (sg (sp_fieldAddrP fo24_2 (od rfl))) rfl fun a w hS hM => ?_
          refine s_storeP (k := 0) (off := 2) (Δ := [(1, isV (α := List Int) p1), (2, isV (α := Int) p2), (3, isV (α := Int) p3), (4, isV (α := Int) p4), (5, isV (α := Int) p5), (6, isV (α := Int) p6), (7, isA (α := S_api_Market) p0), (15, Pr.ptr b_5), (16, Pr.ptr b_6), (20, isA (α := S_api_Offer) v_27), (111, isV (α := List S_api_Offer) p0.2.2), (112, isV (α := Int) (p0.2.2.length : Int)), (113, isV (α := Int) i_19), (131, Pr.is u_31), (132, Pr.is (.pointer (some ⟨b_5, 2, none⟩)))]) tyR22_w hS rfl ⟨od rfl, od rfl, od rfl, od rfl, od rfl, od rfl, od rfl, od rfl, od rfl, od rfl, od rfl, od rfl, od rfl, od rfl, od rfl, trivial⟩ ⟨fun _ _ _ _ h => h, fun _ _ _ _ h => h, fun _ _ _ _ h => h, fun _ _ _ _ h => h, fun _ _ _ _ h => h, fun _ _ _ _ h => h, fun _ _ _ _ h => h, fun _ _ _ _ h => h, fun _ _ _ _ h => h, fun _ _ _ _ h => h, fun _ _ _ _ h => h, fun _ _ _ _ h => h, fun _ _ _ _ h => h, fun _ _ _ _ h => h, fun _ _ _ _ h => h, trivial⟩ (od rfl) (odRaw (od rfl) (hS.one (k := 3) rfl)) sf24_12_2 fun w hS hM => ?_
          have hS : St _ F0 [Item.box (α := Int × Raw × Raw) 24 b_5 (p0.1, (Raw.mk u_13), (Raw.mk u_31)), Item.box (α := Int × (List S_api_Offer) × Raw) 24 b_6 (p0.1, p0.2.1, (Raw.mk u_26)), Item.sl (α := S_api_Offer) 59 u_13 s_9, Item.sl (α := S_api_Offer) 59 u_31 z_29, Item.sl (α := S_api_Offer) 59 u_26 s_21.2] _ w0 _ _ := hS
          refine l_end ?_
          refine exit_then ?_
          obtain ⟨z_32, e_33, h⟩ := bind_some h
          refine l_start ?_
          have hS := st_box 1 16 hS rfl rfl
          refine s_c hS (sg (sp_fieldAddrB fdR24_2_2 (odB rfl))) rfl fun a w hS hM => ?_
          refine s_c hS (sg (sp_loadRaw tyR22_w (od rfl))) rfl fun a w hS hM => ?_
          refine s_c hS (sg (sp_fieldAddr fd59_0 (od rfl))) rfl fun a w hS hM => ?_
          refine s_c hS (sg (sp_load ty3 (od rfl))) rfl fun a w hS hM => ?_
          refine s_c hS (sg (sp_fieldAddr fd59_1 (od rfl))) rfl fun a w hS hM => ?_
          refine s_c hS (sg (sp_load ty3 (od rfl))) rfl fun a w hS hM => ?_
          refine s_c hS (sg (sp_fieldAddr fd59_2 (od rfl))) rfl fun a w hS hM => ?_
          refine s_c hS (sg (sp_load ty3 (od rfl))) rfl fun a w hS hM => ?_
          refine s_c hS (sg (sp_move (od rfl))) rfl fun a w hS hM => ?_
          refine s_c hS (sg (sp_mul (od rfl) (od rfl))) rfl fun a w hS hM => ?_
          refine s_c hS (sg (sp_fieldAddr fd59_3 (od rfl))) rfl fun a w hS hM => ?_
          refine s_c hS (sg (sp_load ty3 (od rfl))) rfl fun a w hS hM => ?_
          refine s_c hS (sg (bd59_0123 (od rfl) (od rfl) (od rfl) (od rfl))) rfl fun a w hS hM => ?_
          refine s_c hS (sg (sp_buildSlice [.tmp 145] ([((v_27.1, v_27.2.1, (wr (v_27.2.2.1 * p6)), v_27.2.2.2) : S_api_Offer)] : List S_api_Offer) sl22 ze59 rfl rfl rfl rfl ⟨od rfl, trivial⟩)) rfl fun a w hS hM => ?_
          refine s_append (k := 4) (Δ := [(1, isV (α := List Int) p1), (2, isV (α := Int) p2), (3, isV (α := Int) p3), (4, isV (α := Int) p4), (5, isV (α := Int) p5), (6, isV (α := Int) p6), (7, isA (α := S_api_Market) p0), (15, Pr.ptr b_5), (16, Pr.ptr b_6), (111, isV (α := List S_api_Offer) p0.2.2), (112, isV (α := Int) (p0.2.2.length : Int)), (113, isV (α := Int) i_19), (134, Pr.is u_26), (146, isV (α := List S_api_Offer) ([((v_27.1, v_27.2.1, (wr (v_27.2.2.1 * p6)), v_27.2.2.2) : S_api_Offer)] : List S_api_Offer))]) sl22 ze59 hS rfl ⟨od rfl, od rfl, od rfl, od rfl, od rfl, od rfl, od rfl, od rfl, odBx rfl, od rfl, od rfl, od rfl, od rfl, od rfl, trivial⟩ ⟨fun _ _ _ _ h => h, fun _ _ _ _ h => h, fun _ _ _ _ h => h, fun _ _ _ _ h => h, fun _ _ _ _ h => h, fun _ _ _ _ h => h, fun _ _ _ _ h => h, fun _ _ _ _ h => h, fun _ _ _ _ h => h, fun _ _ _ _ h => h, fun _ _ _ _ h => h, fun _ _ _ _ h => h, fun _ _ _ _ h => h, fun _ _ _ _ h => h, trivial⟩ (od rfl) (od rfl) e_33 rfl fun a w u_34 hS hM => ?_
          have hS : St _ F0 [Item.box (α := Int × Raw × Raw) 24 b_5 (p0.1, (Raw.mk u_13), (Raw.mk u_31)), Item.box (α := Int × (List S_api_Offer) × Raw) 24 b_6 (p0.1, p0.2.1, (Raw.mk u_26)), Item.sl (α := S_api_Offer) 59 u_13 s_9, Item.sl (α := S_api_Offer) 59 u_31 z_29, Item.sl (α := S_api_Offer) 59 u_34 z_32] _ w0 _ _ := hS
          refine s_c hS (sg (sp_fieldAddrP fo24_2 (od rfl))) rfl fun a w hS hM => ?_
          refine s_storeP (k := 1) (off := 2) (Δ := [(1, isV (α := List Int) p1), (2, isV (α := Int) p2), (3, isV (α := Int) p3), (4, isV (α := Int) p4), (5, isV (α := Int) p5), (6, isV (α := Int) p6), (7, isA (α := S_api_Market) p0), (15, Pr.ptr b_5), (16, Pr.ptr b_6), (111, isV (α := List S_api_Offer) p0.2.2), (112, isV (α := Int) (p0.2.2.length : Int)), (113, isV (α := Int) i_19), (147, Pr.is u_34), (148, Pr.is (.pointer (some ⟨b_6, 2, none⟩)))]) tyR22_w hS rfl ⟨od rfl, od rfl, od rfl, od rfl, od rfl, od rfl, od rfl, od rfl, od rfl, od rfl, od rfl, od rfl, od rfl, od rfl, trivial⟩ ⟨fun _ _ _ _ h => h, fun _ _ _ _ h => h, fun _ _ _ _ h => h, fun _ _ _ _ h => h, fun _ _ _ _ h => h, fun _ _ _ _ h => h, fun _ _ _ _ h => h, fun _ _ _ _ h => h, fun _ _ _ _ h => h, fun _ _ _ _ h => h, fun _ _ _ _ h => h, fun _ _ _ _ h => h, fun _ _ _ _ h => h, fun _ _ _ _ h => h, trivial⟩ (od rfl) (odRaw (od rfl) (hS.one (k := 4) rfl)) sf24_2_2 fun w hS hM => ?_
          have hS : St _ F0 [Item.box (α := Int × Raw × Raw) 24 b_5 (p0.1, (Raw.mk u_13), (Raw.mk u_31)), Item.box (α := Int × (List S_api_Offer) × Raw) 24 b_6 (p0.1, p0.2.1, (Raw.mk u_34)), Item.sl (α := S_api_Offer) 59 u_13 s_9, Item.sl (α := S_api_Offer) 59 u_31 z_29, Item.sl (α := S_api_Offer) 59 u_34 z_32] _ w0 _ _ := hS
          refine l_end ?_
          refine exit_block ?_
          refine exit_then ?_
          refine st_reg mixed (by kernel_rfl) hS ?_
          refine sc (sg (sp_add (od rfl) (odi))) ?_
          refine sc (sg (sp_move (od rfl))) ?_
          refine sn fun a w hS => ?_
          cases h
          exact ⟨k_22, _, _, u_31, u_34, rfl, hF_22, hS.weak ⟨od rfl, od rfl, od rfl, od rfl, od rfl, od rfl, od rfl, od rfl, od rfl, od rfl, od rfl, od (congrArg (fun z => some (isV (α := Int) z)) hw_22), trivial⟩⟩
        · refine wp_exit ?_
          obtain rfl := (fors_done hF_22 hb).symm
          have h := hr_24
          refine exit_thenE ?_
          refine exit_thenE ?_
          refine exit_here ?_
          refine exit_then ?_
          refine wp_seq ?_
          obtain ⟨v_35, e_36, h⟩ := bind_some h
          refine st_reg mixed (by kernel_rfl) hS ?_
          refine sc (sg (sp_load ty24 (od rfl))) ?_
          refine sc (sg (sp_move (od rfl))) ?_
          refine sc (sg (sp_move (od rfl))) ?_
          refine sc (sg (sp_move (od rfl))) ?_
          refine sc (sg (sp_call en25 (f25_ok e_36) ⟨od rfl, od rfl, od rfl, od rfl, trivial⟩)) ?_
          refine sc (sg (sp_move (od rfl))) ?_
          refine sc (sg (sp_extract (od rfl) rfl)) ?_
          refine sc (sg (sp_extract (od rfl) rfl)) ?_
          refine sc (sg (sp_extract (od rfl) rfl)) ?_
          refine sc (sg (sp_assign (od rfl))) ?_
          refine sc (sg (sp_assign (od rfl))) ?_
          refine sc (sg (sp_assign (od rfl))) ?_
          refine sn fun a w hS => ?_
          refine exit_then ?_
          refine wp_seq ?_
          obtain ⟨v_37, e_38, h⟩ := bind_some h
          refine st_reg mixed (by kernel_rfl) hS ?_
          refine sc (sg (sp_load ty24 (od rfl))) ?_
          refine sc (sg (sp_move (od rfl))) ?_
          refine sc (sg (sp_move (od rfl))) ?_
          refine sc (sg (sp_move (od rfl))) ?_
          refine sc (sg (sp_call en33 (f33_ok e_38) ⟨od rfl, od rfl, od rfl, od rfl, trivial⟩)) ?_
          refine sc (sg (sp_move (od rfl))) ?_
          refine sc (sg (sp_extract (od rfl) rfl)) ?_
          refine sc (sg (sp_extract (od rfl) rfl)) ?_
          refine sc (sg (sp_extract (od rfl) rfl)) ?_
          refine sc (sg (sp_assign (od rfl))) ?_
          refine sc (sg (sp_assign (od rfl))) ?_
          refine sc (sg (sp_assign (od rfl))) ?_
          refine sn fun a w hS => ?_
          refine exit_then ?_
          refine wp_seq ?_
          refine wp_seq ?_
          refine st_reg mixed (by kernel_rfl) hS ?_
          refine sc (sg (sp_move (od rfl))) ?_
          refine sc (sg (sp_neq (od rfl) (odi))) ?_
          refine sc (sg (sp_move (od rfl))) ?_
          refine sc (sgF rfl fun hG => sp_move (od rfl)) ?_
          refine sc (sgF rfl fun hG => sp_neq (odw rfl hG) (odi)) ?_
          refine sc (sg (sp_pickOr (od rfl) fun hg => odw rfl (not_t hg))) ?_
          refine sn fun a w hS => ?_
          refine exit_then ?_
          refine st_cond hS rfl (fun hb => ?_) (fun hb => ?_)
          · have h := ite_t hb h
            refine wp_seq ?_
            have hS := st_drop 0 hS
            have hS := st_drop 1 hS
            have hS := st_drop 1 hS
            have hS := st_drop 0 hS
            have hS := st_drop 0 hS
            refine st_reg mixed (by kernel_rfl) hS ?_
            refine sc (sg (sp_assign (odb))) ?_
            refine sn fun a w hS => ?_
            refine exit_then ?_
            refine wp_ret ?_
            refine exit_thenR ?_
            cases h
            exact st_ret hS (run_results1 Try.results7 a w) (hS.get rfl)
          · have h := ite_f hb h
            refine wp_skip ?_
            refine exit_then ?_
            refine wp_seq ?_
            refine wp_seq ?_
            have hS := st_unraw 2 0 hS rfl rfl (UnR.snd (UnR.fst UnR.self))
            have hS := st_unraw 2 0 hS rfl rfl (UnR.snd (UnR.snd UnR.self))
            have hS : St _ F0 [Item.box (α := S_api_Market) 24 b_5 ((p0.1, s_9, s_21.1) : S_api_Market), Item.box (α := Int × (List S_api_Offer) × Raw) 24 b_6 (p0.1, p0.2.1, (Raw.mk u_26)), Item.sl (α := S_api_Offer) 59 u_26 s_21.2] _ w0 _ _ := hS
            have hS := st_freezeB 0 15 hS rfl rfl
            obtain ⟨v_39, e_40, h⟩ := bind_some h
            obtain ⟨v_41, e_42, h⟩ := bind_some h
            refine st_reg mixed (by kernel_rfl) hS ?_
            refine sc (sg (sp_load ty24 (od rfl))) ?_
            refine sc (sg (sp_call en41 (f41_ok e_40) ⟨od rfl, trivial⟩)) ?_
            refine sc (sg (sp_eql (od rfl) (odi))) ?_
            refine sc (sg (sp_move (od rfl))) ?_
            refine sc (sgT rfl fun hG => sp_load ty24 (od rfl)) ?_
            refine sc (sgT rfl fun hG => sp_call en42 (f42_ok (guard_some e_42 hG)) ⟨odw rfl hG, trivial⟩) ?_
            refine sc (sgT rfl fun hG => sp_eql (odw rfl hG) (odi)) ?_
            refine sc (sg (sp_pickAnd (od rfl) fun hg => odw rfl hg)) ?_
            refine sn fun a w hS => ?_
            refine exit_then ?_
            refine st_cond hS rfl (fun hb => ?_) (fun hb => ?_)
            · have h := ite_t hb h
              refine wp_seq ?_
              obtain ⟨v_43, e_44, h⟩ := bind_some h
              refine st_reg mixed (by kernel_rfl) hS ?_
              refine sc (sg (sp_load ty24 (od rfl))) ?_
              refine sc (sg (sp_move (od rfl))) ?_
              refine sc (sg (sp_move (od rfl))) ?_
              refine sc (sg (sp_move (od rfl))) ?_
              refine sc (sg (sp_call en33 (f33_ok e_44) ⟨od rfl, od rfl, od rfl, od rfl, trivial⟩)) ?_
              refine sc (sg (sp_move (od rfl))) ?_
              refine sc (sg (sp_extract (od rfl) rfl)) ?_
              refine sc (sg (sp_extract (od rfl) rfl)) ?_
              refine sc (sg (sp_extract (od rfl) rfl)) ?_
              refine sc (sg (sp_assign (od rfl))) ?_
              refine sc (sg (sp_assign (od rfl))) ?_
              refine sc (sg (sp_assign (od rfl))) ?_
              refine sn fun a w hS => ?_
              refine exit_then ?_
              refine wp_seq ?_
              refine wp_seq ?_
              refine st_reg mixed (by kernel_rfl) hS ?_
              refine sc (sg (sp_move (od rfl))) ?_
              refine sc (sg (sp_neq (od rfl) (odi))) ?_
              refine sc (sg (sp_move (od rfl))) ?_
              refine sc (sgF rfl fun hG => sp_move (od rfl)) ?_
              refine sc (sgF rfl fun hG => sp_move (od rfl)) ?_
              refine sc (sgF rfl fun hG => sp_neqB Try.underlying4 (odw rfl hG) (odw rfl hG)) ?_
              refine sc (sg (sp_pickOr (od rfl) fun hg => odw rfl (not_t hg))) ?_
              refine sc (sg (sp_move (od rfl))) ?_
              refine sc (sgF rfl fun hG => sp_move (od rfl)) ?_
              refine sc (sgF rfl fun hG => sp_move (od rfl)) ?_
              refine sc (sgF rfl fun hG => sp_move (od rfl)) ?_
              refine sc (sgF rfl fun hG => sp_mul (odw rfl hG) (odw rfl hG)) ?_
              refine sc (sgF rfl fun hG => sp_neq (odw rfl hG) (odw rfl hG)) ?_
              refine sc (sg (sp_pickOr (od rfl) fun hg => odw rfl (not_t hg))) ?_
              refine sn fun a w hS => ?_
              refine exit_then ?_
              refine st_cond hS rfl (fun hb => ?_) (fun hb => ?_)
              · have h := ite_t hb h
                refine wp_seq ?_
                have hS := st_drop 0 hS
                have hS := st_drop 0 hS
                refine st_reg mixed (by kernel_rfl) hS ?_
                refine sc (sg (sp_assign (odb))) ?_
                refine sn fun a w hS => ?_
                refine exit_then ?_
                refine wp_ret ?_
                refine exit_thenR ?_
                refine exit_thenR ?_
                cases h
                exact st_ret hS (run_results1 Try.results7 a w) (hS.get rfl)
              · have h := ite_f hb h
                refine wp_skip ?_
                refine exit_then ?_
                refine wp_seq ?_
                refine st_reg mixed (by kernel_rfl) hS ?_
                refine sc (sg (sp_move (od rfl))) ?_
                refine sc (sg (sp_move (od rfl))) ?_
                refine sc (sg (sp_mul (od rfl) (od rfl))) ?_
                refine sc (sg (sp_leq (od rfl) (odi))) ?_
                refine sn fun a w hS => ?_
                refine exit_then ?_
                refine st_cond hS rfl (fun hb => ?_) (fun hb => ?_)
                · have h := ite_t hb h
                  refine wp_seq ?_
                  obtain ⟨v_45, e_46, h⟩ := bind_some h
                  refine st_reg mixed (by kernel_rfl) hS ?_
                  refine sc (sg (sp_load ty24 (od rfl))) ?_
                  refine sc (sg (sp_move (od rfl))) ?_
                  refine sc (sg (sp_move (od rfl))) ?_
                  refine sc (sg (sp_move (od rfl))) ?_
                  refine sc (sg (sp_move (od rfl))) ?_
                  refine sc (sg (sp_mul (od rfl) (od rfl))) ?_
                  refine sc (sg (sp_call en25 (f25_ok e_46) ⟨od rfl, od rfl, od rfl, od rfl, trivial⟩)) ?_
                  refine sc (sg (sp_move (od rfl))) ?_
                  refine sc (sg (sp_extract (od rfl) rfl)) ?_
                  refine sc (sg (sp_extract (od rfl) rfl)) ?_
                  refine sc (sg (sp_extract (od rfl) rfl)) ?_
                  refine sc (sg (sp_assign (od rfl))) ?_
                  refine sc (sg (sp_assign (od rfl))) ?_
                  refine sc (sg (sp_assign (od rfl))) ?_
                  refine sn fun a w hS => ?_
                  refine exit_then ?_
                  refine wp_seq ?_
                  obtain ⟨v_47, e_48, h⟩ := bind_some h
                  refine st_reg mixed (by kernel_rfl) hS ?_
                  refine sc (sg (sp_move (od rfl))) ?_
                  refine sc (sg (sp_neq (od rfl) (odi))) ?_
                  refine sc (sg (sp_move (od rfl))) ?_
                  refine sc (sgF rfl fun hG => sp_move (od rfl)) ?_
                  refine sc (sgF rfl fun hG => sp_move (od rfl)) ?_
                  refine sc (sgF rfl fun hG => sp_neqB Try.underlying4 (odw rfl hG) (odw rfl hG)) ?_
                  refine sc (sg (sp_pickOr (od rfl) fun hg => odw rfl (not_t hg))) ?_
                  refine sc (sg (sp_move (od rfl))) ?_
                  refine sc (sgF rfl fun hG => sp_move (od rfl)) ?_
                  refine sc (sgF rfl fun hG => sp_move (od rfl)) ?_
                  refine sc (sgF rfl fun hG => sp_call en24 (f24_ok (guard_some e_48 hG)) ⟨odw rfl hG, odw rfl hG, trivial⟩) ?_
                  refine sc (sgF rfl fun hG => sp_not (odw rfl hG)) ?_
                  refine sc (sg (sp_pickOr (od rfl) fun hg => odw rfl (not_t hg))) ?_
                  refine sn fun a w hS => ?_
                  refine exit_then ?_
                  refine st_cond hS rfl (fun hb => ?_) (fun hb => ?_)
                  · have h := ite_t hb h
                    refine wp_seq ?_
                    have hS := st_drop 0 hS
                    have hS := st_drop 0 hS
                    refine st_reg mixed (by kernel_rfl) hS ?_
                    refine sc (sg (sp_assign (odb))) ?_
                    refine sn fun a w hS => ?_
                    refine exit_then ?_
                    refine wp_ret ?_
                    refine exit_thenR ?_
                    cases h
                    exact st_ret hS (run_results1 Try.results7 a w) (hS.get rfl)
                  · have h := ite_f hb h
                    refine wp_skip ?_
                    refine exit_then ?_
                    refine wp_seq ?_
                    refine wp_seq ?_
                    have hS := st_unraw 1 0 hS rfl rfl (UnR.snd (UnR.snd UnR.self))
                    have hS : St _ F0 [Item.box (α := S_api_Market) 24 b_6 ((p0.1, p0.2.1, s_21.2) : S_api_Market)] _ w0 _ _ := hS
                    have hS := st_freezeB 0 16 hS rfl rfl
                    obtain ⟨v_49, e_50, h⟩ := bind_some h
                    obtain ⟨v_51, e_52, h⟩ := bind_some h
                    refine st_reg mixed (by kernel_rfl) hS ?_
                    refine sc (sg (sp_load ty24 (od rfl))) ?_
                    refine sc (sg (sp_call en41 (f41_ok e_50) ⟨od rfl, trivial⟩)) ?_
                    refine sc (sg (sp_neq (od rfl) (odi))) ?_
                    refine sc (sg (sp_move (od rfl))) ?_
                    refine sc (sgF rfl fun hG => sp_load ty24 (od rfl)) ?_
                    refine sc (sgF rfl fun hG => sp_call en42 (f42_ok (guard_some e_52 hG)) ⟨odw rfl hG, trivial⟩) ?_
                    refine sc (sgF rfl fun hG => sp_neq (odw rfl hG) (odi)) ?_
                    refine sc (sg (sp_pickOr (od rfl) fun hg => odw rfl (not_t hg))) ?_
                    refine sn fun a w hS => ?_
                    refine exit_then ?_
                    refine st_cond hS rfl (fun hb => ?_) (fun hb => ?_)
                    · have h := ite_t hb h
                      refine wp_seq ?_
                      refine st_reg mixed (by kernel_rfl) hS ?_
                      refine sc (sg (sp_assign (odb))) ?_
                      refine sn fun a w hS => ?_
                      refine exit_then ?_
                      refine wp_ret ?_
                      refine exit_thenR ?_
                      cases h
                      exact st_ret hS (run_results1 Try.results7 a w) (hS.get rfl)
                    · have h := ite_f hb h
                      refine wp_skip ?_
                      refine exit_then ?_
                      refine wp_seq ?_
                      obtain ⟨v_53, e_54, h⟩ := bind_some h
                      refine st_reg mixed (by kernel_rfl) hS ?_
                      refine sc (sg (sp_load ty24 (od rfl))) ?_
                      refine sc (sg (sp_move (od rfl))) ?_
                      refine sc (sg (sp_move (od rfl))) ?_
                      refine sc (sg (sp_move (od rfl))) ?_
                      refine sc (sg (sp_call en25 (f25_ok e_54) ⟨od rfl, od rfl, od rfl, od rfl, trivial⟩)) ?_
                      refine sc (sg (sp_move (od rfl))) ?_
                      refine sc (sg (sp_extract (od rfl) rfl)) ?_
                      refine sc (sg (sp_extract (od rfl) rfl)) ?_
                      refine sc (sg (sp_extract (od rfl) rfl)) ?_
                      refine sc (sg (sp_assign (od rfl))) ?_
                      refine sc (sg (sp_assign (od rfl))) ?_
                      refine sc (sg (sp_assign (od rfl))) ?_
                      refine sn fun a w hS => ?_
                      refine exit_then ?_
                      refine wp_seq ?_
                      obtain ⟨v_55, e_56, h⟩ := bind_some h
                      refine st_reg mixed (by kernel_rfl) hS ?_
                      refine sc (sg (sp_load ty24 (od rfl))) ?_
                      refine sc (sg (sp_move (od rfl))) ?_
                      refine sc (sg (sp_call en37 (f37_ok e_56) ⟨od rfl, od rfl, trivial⟩)) ?_
                      refine sc (sg (sp_move (od rfl))) ?_
                      refine sc (sg (sp_extract (od rfl) rfl)) ?_
                      refine sc (sg (sp_extract (od rfl) rfl)) ?_
                      refine sc (sg (sp_assign (od rfl))) ?_
                      refine sc (sg (sp_assign (od rfl))) ?_
                      refine sn fun a w hS => ?_
                      refine exit_then ?_
                      refine wp_seq ?_
                      obtain ⟨v_57, e_58, h⟩ := bind_some h
                      refine st_reg mixed (by kernel_rfl) hS ?_
                      refine sc (sg (sp_load ty24 (od rfl))) ?_
                      refine sc (sg (sp_move (od rfl))) ?_
                      refine sc (sg (sp_call en37 (f37_ok e_58) ⟨od rfl, od rfl, trivial⟩)) ?_
                      refine sc (sg (sp_move (od rfl))) ?_
                      refine sc (sg (sp_extract (od rfl) rfl)) ?_
                      refine sc (sg (sp_extract (od rfl) rfl)) ?_
                      refine sc (sg (sp_assign (od rfl))) ?_
                      refine sc (sg (sp_assign (od rfl))) ?_
                      refine sn fun a w hS => ?_
                      refine exit_then ?_
                      refine wp_seq ?_
                      obtain ⟨v_59, e_60, h⟩ := bind_some h
                      refine st_reg mixed (by kernel_rfl) hS ?_
                      refine sc (sg (sp_load ty24 (od rfl))) ?_
                      refine sc (sg (sp_move (od rfl))) ?_
                      refine sc (sg (sp_move (od rfl))) ?_
                      refine sc (sg (sp_move (od rfl))) ?_
                      refine sc (sg (sp_move (od rfl))) ?_
                      refine sc (sg (sp_call en20 (f20_ok e_60) ⟨od rfl, od rfl, od rfl, od rfl, od rfl, trivial⟩)) ?_
                      refine sc (sg (sp_move (od rfl))) ?_
                      refine sc (sg (sp_extract (od rfl) rfl)) ?_
                      refine sc (sg (sp_extract (od rfl) rfl)) ?_
                      refine sc (sg (sp_extract (od rfl) rfl)) ?_
                      refine sc (sg (sp_assign (od rfl))) ?_
                      refine sc (sg (sp_assign (od rfl))) ?_
                      refine sc (sg (sp_assign (od rfl))) ?_
                      refine sn fun a w hS => ?_
                      refine exit_then ?_
                      refine wp_seq ?_
                      obtain ⟨v_61, e_62, h⟩ := bind_some h
                      refine st_reg mixed (by kernel_rfl) hS ?_
                      refine sc (sg (sp_load ty24 (od rfl))) ?_
                      refine sc (sg (sp_move (od rfl))) ?_
                      refine sc (sg (sp_move (od rfl))) ?_
                      refine sc (sg (sp_move (od rfl))) ?_
                      refine sc (sg (sp_move (od rfl))) ?_
                      refine sc (sg (sp_call en20 (f20_ok e_62) ⟨od rfl, od rfl, od rfl, od rfl, od rfl, trivial⟩)) ?_
                      refine sc (sg (sp_move (od rfl))) ?_
                      refine sc (sg (sp_extract (od rfl) rfl)) ?_
                      refine sc (sg (sp_extract (od rfl) rfl)) ?_
                      refine sc (sg (sp_extract (od rfl) rfl)) ?_
                      refine sc (sg (sp_assign (od rfl))) ?_
                      refine sc (sg (sp_assign (od rfl))) ?_
                      refine sc (sg (sp_assign (od rfl))) ?_
                      refine sn fun a w hS => ?_
                      refine exit_then ?_
                      refine wp_seq ?_
                      obtain ⟨v_63, e_64, h⟩ := bind_some h
                      refine st_reg mixed (by kernel_rfl) hS ?_
                      refine sc (sg (sp_move (od rfl))) ?_
                      refine sc (sg (sp_eql (od rfl) (odi))) ?_
                      refine sc (sg (sp_move (od rfl))) ?_
                      refine sc (sgT rfl fun hG => sp_move (od rfl)) ?_
                      refine sc (sgT rfl fun hG => sp_eql (odw rfl hG) (odi)) ?_
                      refine sc (sg (sp_pickAnd (od rfl) fun hg => odw rfl hg)) ?_
                      refine sc (sg (sp_move (od rfl))) ?_
                      refine sc (sgT rfl fun hG => sp_move (od rfl)) ?_
                      refine sc (sgT rfl fun hG => sp_eql (odw rfl hG) (odi)) ?_
                      refine sc (sg (sp_pickAnd (od rfl) fun hg => odw rfl hg)) ?_
                      refine sc (sg (sp_move (od rfl))) ?_
                      refine sc (sgT rfl fun hG => sp_move (od rfl)) ?_
                      refine sc (sgT rfl fun hG => sp_move (od rfl)) ?_
                      refine sc (sgT rfl fun hG => sp_eqlB Try.underlying4 (odw rfl hG) (odw rfl hG)) ?_
                      refine sc (sg (sp_pickAnd (od rfl) fun hg => odw rfl hg)) ?_
                      refine sc (sg (sp_move (od rfl))) ?_
                      refine sc (sgT rfl fun hG => sp_move (od rfl)) ?_
                      refine sc (sgT rfl fun hG => sp_move (od rfl)) ?_
                      refine sc (sgT rfl fun hG => sp_call en24 (f24_ok (guard_some e_64 hG)) ⟨odw rfl hG, odw rfl hG, trivial⟩) ?_
                      refine sc (sg (sp_pickAnd (od rfl) fun hg => odw rfl hg)) ?_
                      refine sc (sg (sp_move (od rfl))) ?_
                      refine sc (sgT rfl fun hG => sp_move (od rfl)) ?_
                      refine sc (sgT rfl fun hG => sp_move (od rfl)) ?_
                      refine sc (sgT rfl fun hG => sp_move (od rfl)) ?_
                      refine sc (sgT rfl fun hG => sp_mul (odw rfl hG) (odw rfl hG)) ?_
                      refine sc (sgT rfl fun hG => sp_eql (odw rfl hG) (odw rfl hG)) ?_
                      refine sc (sg (sp_pickAnd (od rfl) fun hg => odw rfl hg)) ?_
                      refine sc (sg (sp_move (od rfl))) ?_
                      refine sc (sgT rfl fun hG => sp_move (od rfl)) ?_
                      refine sc (sgT rfl fun hG => sp_move (od rfl)) ?_
                      refine sc (sgT rfl fun hG => sp_eql (odw rfl hG) (odw rfl hG)) ?_
                      refine sc (sg (sp_pickAnd (od rfl) fun hg => odw rfl hg)) ?_
                      refine sc (sg (sp_move (od rfl))) ?_
                      refine sc (sgT rfl fun hG => sp_move (od rfl)) ?_
                      refine sc (sgT rfl fun hG => sp_move (od rfl)) ?_
                      refine sc (sgT rfl fun hG => sp_eqlB Try.underlying4 (odw rfl hG) (odw rfl hG)) ?_
                      refine sc (sg (sp_pickAnd (od rfl) fun hg => odw rfl hg)) ?_
                      refine sc (sg (sp_move (od rfl))) ?_
                      refine sc (sgT rfl fun hG => sp_move (od rfl)) ?_
                      refine sc (sgT rfl fun hG => sp_move (od rfl)) ?_
                      refine sc (sgT rfl fun hG => sp_move (od rfl)) ?_
                      refine sc (sgT rfl fun hG => sp_mul (odw rfl hG) (odw rfl hG)) ?_
                      refine sc (sgT rfl fun hG => sp_eql (odw rfl hG) (odw rfl hG)) ?_
                      refine sc (sg (sp_pickAnd (od rfl) fun hg => odw rfl hg)) ?_
                      refine sc (sg (sp_assign (od rfl))) ?_
                      refine sn fun a w hS => ?_
                      refine exit_then ?_
                      refine wp_ret ?_
                      cases h
                      exact st_ret hS (run_results1 Try.results7 a w) (hS.get rfl)
                · have h := ite_f hb h
                  refine wp_skip ?_
                  refine exit_then ?_
                  refine wp_seq ?_
                  refine wp_seq ?_
                  have hS := st_unraw 1 0 hS rfl rfl (UnR.snd (UnR.snd UnR.self))
                  have hS : St _ F0 [Item.box (α := S_api_Market) 24 b_6 ((p0.1, p0.2.1, s_21.2) : S_api_Market)] _ w0 _ _ := hS
                  have hS := st_freezeB 0 16 hS rfl rfl
                  obtain ⟨v_65, e_66, h⟩ := bind_some h
                  obtain ⟨v_67, e_68, h⟩ := bind_some h
                  refine st_reg mixed (by kernel_rfl) hS ?_
                  refine sc (sg (sp_load ty24 (od rfl))) ?_
                  refine sc (sg (sp_call en41 (f41_ok e_66) ⟨od rfl, trivial⟩)) ?_
                  refine sc (sg (sp_neq (od rfl) (odi))) ?_
                  refine sc (sg (sp_move (od rfl))) ?_
                  refine sc (sgF rfl fun hG => sp_load ty24 (od rfl)) ?_
                  refine sc (sgF rfl fun hG => sp_call en42 (f42_ok (guard_some e_68 hG)) ⟨odw rfl hG, trivial⟩) ?_
                  refine sc (sgF rfl fun hG => sp_neq (odw rfl hG) (odi)) ?_
                  refine sc (sg (sp_pickOr (od rfl) fun hg => odw rfl (not_t hg))) ?_
                  refine sn fun a w hS => ?_
                  refine exit_then ?_
                  refine st_cond hS rfl (fun hb => ?_) (fun hb => ?_)
                  · have h := ite_t hb h
                    refine wp_seq ?_
                    refine st_reg mixed (by kernel_rfl) hS ?_
                    refine sc (sg (sp_assign (odb))) ?_
                    refine sn fun a w hS => ?_
                    refine exit_then ?_
                    refine wp_ret ?_
                    refine exit_thenR ?_
                    cases h
                    exact st_ret hS (run_results1 Try.results7 a w) (hS.get rfl)
                  · have h := ite_f hb h
                    refine wp_skip ?_
                    refine exit_then ?_
                    refine wp_seq ?_
                    obtain ⟨v_69, e_70, h⟩ := bind_some h
                    refine st_reg mixed (by kernel_rfl) hS ?_
                    refine sc (sg (sp_load ty24 (od rfl))) ?_
                    refine sc (sg (sp_move (od rfl))) ?_
                    refine sc (sg (sp_move (od rfl))) ?_
                    refine sc (sg (sp_move (od rfl))) ?_
                    refine sc (sg (sp_call en25 (f25_ok e_70) ⟨od rfl, od rfl, od rfl, od rfl, trivial⟩)) ?_
                    refine sc (sg (sp_move (od rfl))) ?_
                    refine sc (sg (sp_extract (od rfl) rfl)) ?_
                    refine sc (sg (sp_extract (od rfl) rfl)) ?_
                    refine sc (sg (sp_extract (od rfl) rfl)) ?_
                    refine sc (sg (sp_assign (od rfl))) ?_
                    refine sc (sg (sp_assign (od rfl))) ?_
                    refine sc (sg (sp_assign (od rfl))) ?_
                    refine sn fun a w hS => ?_
                    refine exit_then ?_
                    refine wp_seq ?_
                    obtain ⟨v_71, e_72, h⟩ := bind_some h
                    refine st_reg mixed (by kernel_rfl) hS ?_
                    refine sc (sg (sp_load ty24 (od rfl))) ?_
                    refine sc (sg (sp_move (od rfl))) ?_
                    refine sc (sg (sp_call en37 (f37_ok e_72) ⟨od rfl, od rfl, trivial⟩)) ?_
                    refine sc (sg (sp_move (od rfl))) ?_
                    refine sc (sg (sp_extract (od rfl) rfl)) ?_
                    refine sc (sg (sp_extract (od rfl) rfl)) ?_
                    refine sc (sg (sp_assign (od rfl))) ?_
                    refine sc (sg (sp_assign (od rfl))) ?_
                    refine sn fun a w hS => ?_
                    refine exit_then ?_
                    refine wp_seq ?_
                    obtain ⟨v_73, e_74, h⟩ := bind_some h
                    refine st_reg mixed (by kernel_rfl) hS ?_
                    refine sc (sg (sp_load ty24 (od rfl))) ?_
                    refine sc (sg (sp_move (od rfl))) ?_
                    refine sc (sg (sp_call en37 (f37_ok e_74) ⟨od rfl, od rfl, trivial⟩)) ?_
                    refine sc (sg (sp_move (od rfl))) ?_
                    refine sc (sg (sp_extract (od rfl) rfl)) ?_
                    refine sc (sg (sp_extract (od rfl) rfl)) ?_
                    refine sc (sg (sp_assign (od rfl))) ?_
                    refine sc (sg (sp_assign (od rfl))) ?_
                    refine sn fun a w hS => ?_
                    refine exit_then ?_
                    refine wp_seq ?_
                    obtain ⟨v_75, e_76, h⟩ := bind_some h
                    refine st_reg mixed (by kernel_rfl) hS ?_
                    refine sc (sg (sp_load ty24 (od rfl))) ?_
                    refine sc (sg (sp_move (od rfl))) ?_
                    refine sc (sg (sp_move (od rfl))) ?_
                    refine sc (sg (sp_move (od rfl))) ?_
                    refine sc (sg (sp_move (od rfl))) ?_
                    refine sc (sg (sp_call en20 (f20_ok e_76) ⟨od rfl, od rfl, od rfl, od rfl, od rfl, trivial⟩)) ?_
                    refine sc (sg (sp_move (od rfl))) ?_
                    refine sc (sg (sp_extract (od rfl) rfl)) ?_
                    refine sc (sg (sp_extract (od rfl) rfl)) ?_
                    refine sc (sg (sp_extract (od rfl) rfl)) ?_
                    refine sc (sg (sp_assign (od rfl))) ?_
                    refine sc (sg (sp_assign (od rfl))) ?_
                    refine sc (sg (sp_assign (od rfl))) ?_
                    refine sn fun a w hS => ?_
                    refine exit_then ?_
                    refine wp_seq ?_
                    obtain ⟨v_77, e_78, h⟩ := bind_some h
                    refine st_reg mixed (by kernel_rfl) hS ?_
                    refine sc (sg (sp_load ty24 (od rfl))) ?_
                    refine sc (sg (sp_move (od rfl))) ?_
                    refine sc (sg (sp_move (od rfl))) ?_
                    refine sc (sg (sp_move (od rfl))) ?_
                    refine sc (sg (sp_move (od rfl))) ?_
                    refine sc (sg (sp_call en20 (f20_ok e_78) ⟨od rfl, od rfl, od rfl, od rfl, od rfl, trivial⟩)) ?_
                    refine sc (sg (sp_move (od rfl))) ?_
                    refine sc (sg (sp_extract (od rfl) rfl)) ?_
                    refine sc (sg (sp_extract (od rfl) rfl)) ?_
                    refine sc (sg (sp_extract (od rfl) rfl)) ?_
                    refine sc (sg (sp_assign (od rfl))) ?_
                    refine sc (sg (sp_assign (od rfl))) ?_
                    refine sc (sg (sp_assign (od rfl))) ?_
                    refine sn fun a w hS => ?_
                    refine exit_then ?_
                    refine wp_seq ?_
                    obtain ⟨v_79, e_80, h⟩ := bind_some h
                    refine st_reg mixed (by kernel_rfl) hS ?_
                    refine sc (sg (sp_move (od rfl))) ?_
                    refine sc (sg (sp_eql (od rfl) (odi))) ?_
                    refine sc (sg (sp_move (od rfl))) ?_
                    refine sc (sgT rfl fun hG => sp_move (od rfl)) ?_
                    refine sc (sgT rfl fun hG => sp_eql (odw rfl hG) (odi)) ?_
                    refine sc (sg (sp_pickAnd (od rfl) fun hg => odw rfl hg)) ?_
                    refine sc (sg (sp_move (od rfl))) ?_
                    refine sc (sgT rfl fun hG => sp_move (od rfl)) ?_
                    refine sc (sgT rfl fun hG => sp_eql (odw rfl hG) (odi)) ?_
                    refine sc (sg (sp_pickAnd (od rfl) fun hg => odw rfl hg)) ?_
                    refine sc (sg (sp_move (od rfl))) ?_
                    refine sc (sgT rfl fun hG => sp_move (od rfl)) ?_
                    refine sc (sgT rfl fun hG => sp_move (od rfl)) ?_
                    refine sc (sgT rfl fun hG => sp_eqlB Try.underlying4 (odw rfl hG) (odw rfl hG)) ?_
                    refine sc (sg (sp_pickAnd (od rfl) fun hg => odw rfl hg)) ?_
                    refine sc (sg (sp_move (od rfl))) ?_
                    refine sc (sgT rfl fun hG => sp_move (od rfl)) ?_
                    refine sc (sgT rfl fun hG => sp_move (od rfl)) ?_
                    refine sc (sgT rfl fun hG => sp_call en24 (f24_ok (guard_some e_80 hG)) ⟨odw rfl hG, odw rfl hG, trivial⟩) ?_
                    refine sc (sg (sp_pickAnd (od rfl) fun hg => odw rfl hg)) ?_
                    refine sc (sg (sp_move (od rfl))) ?_
                    refine sc (sgT rfl fun hG => sp_move (od rfl)) ?_
                    refine sc (sgT rfl fun hG => sp_move (od rfl)) ?_
                    refine sc (sgT rfl fun hG => sp_move (od rfl)) ?_
                    refine sc (sgT rfl fun hG => sp_mul (odw rfl hG) (odw rfl hG)) ?_
                    refine sc (sgT rfl fun hG => sp_eql (odw rfl hG) (odw rfl hG)) ?_
                    refine sc (sg (sp_pickAnd (od rfl) fun hg => odw rfl hg)) ?_
                    refine sc (sg (sp_move (od rfl))) ?_
                    refine sc (sgT rfl fun hG => sp_move (od rfl)) ?_
                    refine sc (sgT rfl fun hG => sp_move (od rfl)) ?_
                    refine sc (sgT rfl fun hG => sp_eql (odw rfl hG) (odw rfl hG)) ?_
                    refine sc (sg (sp_pickAnd (od rfl) fun hg => odw rfl hg)) ?_
                    refine sc (sg (sp_move (od rfl))) ?_
                    refine sc (sgT rfl fun hG => sp_move (od rfl)) ?_
                    refine sc (sgT rfl fun hG => sp_move (od rfl)) ?_
                    refine sc (sgT rfl fun hG => sp_eqlB Try.underlying4 (odw rfl hG) (odw rfl hG)) ?_
                    refine sc (sg (sp_pickAnd (od rfl) fun hg => odw rfl hg)) ?_
                    refine sc (sg (sp_move (od rfl))) ?_
                    refine sc (sgT rfl fun hG => sp_move (od rfl)) ?_
                    refine sc (sgT rfl fun hG => sp_move (od rfl)) ?_
                    refine sc (sgT rfl fun hG => sp_move (od rfl)) ?_
                    refine sc (sgT rfl fun hG => sp_mul (odw rfl hG) (odw rfl hG)) ?_
                    refine sc (sgT rfl fun hG => sp_eql (odw rfl hG) (odw rfl hG)) ?_
                    refine sc (sg (sp_pickAnd (od rfl) fun hg => odw rfl hg)) ?_
                    refine sc (sg (sp_assign (od rfl))) ?_
                    refine sn fun a w hS => ?_
                    refine exit_then ?_
                    refine wp_ret ?_
                    cases h
                    exact st_ret hS (run_results1 Try.results7 a w) (hS.get rfl)
            · have h := ite_f hb h
              refine wp_skip ?_
              refine exit_then ?_
              refine wp_seq ?_
              refine wp_seq ?_
              have hS := st_unraw 1 0 hS rfl rfl (UnR.snd (UnR.snd UnR.self))
              have hS : St _ F0 [Item.box (α := S_api_Market) 24 b_6 ((p0.1, p0.2.1, s_21.2) : S_api_Market)] _ w0 _ _ := hS
              have hS := st_freezeB 0 16 hS rfl rfl
              obtain ⟨v_81, e_82, h⟩ := bind_some h
              obtain ⟨v_83, e_84, h⟩ := bind_some h
              refine st_reg mixed (by kernel_rfl) hS ?_
              refine sc (sg (sp_load ty24 (od rfl))) ?_
              refine sc (sg (sp_call en41 (f41_ok e_82) ⟨od rfl, trivial⟩)) ?_
              refine sc (sg (sp_neq (od rfl) (odi))) ?_
              refine sc (sg (sp_move (od rfl))) ?_
              refine sc (sgF rfl fun hG => sp_load ty24 (od rfl)) ?_
              refine sc (sgF rfl fun hG => sp_call en42 (f42_ok (guard_some e_84 hG)) ⟨odw rfl hG, trivial⟩) ?_
              refine sc (sgF rfl fun hG => sp_neq (odw rfl hG) (odi)) ?_
              refine sc (sg (sp_pickOr (od rfl) fun hg => odw rfl (not_t hg))) ?_
              refine sn fun a w hS => ?_
              refine exit_then ?_
              refine st_cond hS rfl (fun hb => ?_) (fun hb => ?_)
              · have h := ite_t hb h
                refine wp_seq ?_
                refine st_reg mixed (by kernel_rfl) hS ?_
                refine sc (sg (sp_assign (odb))) ?_
                refine sn fun a w hS => ?_
                refine exit_then ?_
                refine wp_ret ?_
                refine exit_thenR ?_
                cases h
                exact st_ret hS (run_results1 Try.results7 a w) (hS.get rfl)
              · have h := ite_f hb h
                refine wp_skip ?_
                refine exit_then ?_
                refine wp_seq ?_
                obtain ⟨v_85, e_86, h⟩ := bind_some h
                refine st_reg mixed (by kernel_rfl) hS ?_
                refine sc (sg (sp_load ty24 (od rfl))) ?_
                refine sc (sg (sp_move (od rfl))) ?_
                refine sc (sg (sp_move (od rfl))) ?_
                refine sc (sg (sp_move (od rfl))) ?_
                refine sc (sg (sp_call en25 (f25_ok e_86) ⟨od rfl, od rfl, od rfl, od rfl, trivial⟩)) ?_
                refine sc (sg (sp_move (od rfl))) ?_
                refine sc (sg (sp_extract (od rfl) rfl)) ?_
                refine sc (sg (sp_extract (od rfl) rfl)) ?_
                refine sc (sg (sp_extract (od rfl) rfl)) ?_
                refine sc (sg (sp_assign (od rfl))) ?_
                refine sc (sg (sp_assign (od rfl))) ?_
                refine sc (sg (sp_assign (od rfl))) ?_
                refine sn fun a w hS => ?_
                refine exit_then ?_
                refine wp_seq ?_
                obtain ⟨v_87, e_88, h⟩ := bind_some h
                refine st_reg mixed (by kernel_rfl) hS ?_
                refine sc (sg (sp_load ty24 (od rfl))) ?_
                refine sc (sg (sp_move (od rfl))) ?_
                refine sc (sg (sp_call en37 (f37_ok e_88) ⟨od rfl, od rfl, trivial⟩)) ?_
                refine sc (sg (sp_move (od rfl))) ?_
                refine sc (sg (sp_extract (od rfl) rfl)) ?_
                refine sc (sg (sp_extract (od rfl) rfl)) ?_
                refine sc (sg (sp_assign (od rfl))) ?_
                refine sc (sg (sp_assign (od rfl))) ?_
                refine sn fun a w hS => ?_
                refine exit_then ?_
                refine wp_seq ?_
                obtain ⟨v_89, e_90, h⟩ := bind_some h
                refine st_reg mixed (by kernel_rfl) hS ?_
                refine sc (sg (sp_load ty24 (od rfl))) ?_
                refine sc (sg (sp_move (od rfl))) ?_
                refine sc (sg (sp_call en37 (f37_ok e_90) ⟨od rfl, od rfl, trivial⟩)) ?_
                refine sc (sg (sp_move (od rfl))) ?_
                refine sc (sg (sp_extract (od rfl) rfl)) ?_
                refine sc (sg (sp_extract (od rfl) rfl)) ?_
                refine sc (sg (sp_assign (od rfl))) ?_
                refine sc (sg (sp_assign (od rfl))) ?_
                refine sn fun a w hS => ?_
                refine exit_then ?_
                refine wp_seq ?_
                obtain ⟨v_91, e_92, h⟩ := bind_some h
                refine st_reg mixed (by kernel_rfl) hS ?_
                refine sc (sg (sp_load ty24 (od rfl))) ?_
                refine sc (sg (sp_move (od rfl))) ?_
                refine sc (sg (sp_move (od rfl))) ?_
                refine sc (sg (sp_move (od rfl))) ?_
                refine sc (sg (sp_move (od rfl))) ?_
                refine sc (sg (sp_call en20 (f20_ok e_92) ⟨od rfl, od rfl, od rfl, od rfl, od rfl, trivial⟩)) ?_
                refine sc (sg (sp_move (od rfl))) ?_
                refine sc (sg (sp_extract (od rfl) rfl)) ?_
                refine sc (sg (sp_extract (od rfl) rfl)) ?_
                refine sc (sg (sp_extract (od rfl) rfl)) ?_
                refine sc (sg (sp_assign (od rfl))) ?_
                refine sc (sg (sp_assign (od rfl))) ?_
                refine sc (sg (sp_assign (od rfl))) ?_
                refine sn fun a w hS => ?_
                refine exit_then ?_
                refine wp_seq ?_
                obtain ⟨v_93, e_94, h⟩ := bind_some h
                refine st_reg mixed (by kernel_rfl) hS ?_
                refine sc (sg (sp_load ty24 (od rfl))) ?_
                refine sc (sg (sp_move (od rfl))) ?_
                refine sc (sg (sp_move (od rfl))) ?_
                refine sc (sg (sp_move (od rfl))) ?_
                refine sc (sg (sp_move (od rfl))) ?_
                refine sc (sg (sp_call en20 (f20_ok e_94) ⟨od rfl, od rfl, od rfl, od rfl, od rfl, trivial⟩)) ?_
                refine sc (sg (sp_move (od rfl))) ?_
                refine sc (sg (sp_extract (od rfl) rfl)) ?_
                refine sc (sg (sp_extract (od rfl) rfl)) ?_
                refine sc (sg (sp_extract (od rfl) rfl)) ?_
                refine sc (sg (sp_assign (od rfl))) ?_
                refine sc (sg (sp_assign (od rfl))) ?_
                refine sc (sg (sp_assign (od rfl))) ?_
                refine sn fun a w hS => ?_
                refine exit_then ?_
                refine wp_seq ?_
                obtain ⟨v_95, e_96, h⟩ := bind_some h
                refine st_reg mixed (by kernel_rfl) hS ?_
                refine sc (sg (sp_move (od rfl))) ?_
                refine sc (sg (sp_eql (od rfl) (odi))) ?_
                refine sc (sg (sp_move (od rfl))) ?_
                refine sc (sgT rfl fun hG => sp_move (od rfl)) ?_
                refine sc (sgT rfl fun hG => sp_eql (odw rfl hG) (odi)) ?_
                refine sc (sg (sp_pickAnd (od rfl) fun hg => odw rfl hg)) ?_
                refine sc (sg (sp_move (od rfl))) ?_
                refine sc (sgT rfl fun hG => sp_move (od rfl)) ?_
                refine sc (sgT rfl fun hG => sp_eql (odw rfl hG) (odi)) ?_
                refine sc (sg (sp_pickAnd (od rfl) fun hg => odw rfl hg)) ?_
                refine sc (sg (sp_move (od rfl))) ?_
                refine sc (sgT rfl fun hG => sp_move (od rfl)) ?_
                refine sc (sgT rfl fun hG => sp_move (od rfl)) ?_
                refine sc (sgT rfl fun hG => sp_eqlB Try.underlying4 (odw rfl hG) (odw rfl hG)) ?_
                refine sc (sg (sp_pickAnd (od rfl) fun hg => odw rfl hg)) ?_
                refine sc (sg (sp_move (od rfl))) ?_
                refine sc (sgT rfl fun hG => sp_move (od rfl)) ?_
                refine sc (sgT rfl fun hG => sp_move (od rfl)) ?_
                refine sc (sgT rfl fun hG => sp_call en24 (f24_ok (guard_some e_96 hG)) ⟨odw rfl hG, odw rfl hG, trivial⟩) ?_
                refine sc (sg (sp_pickAnd (od rfl) fun hg => odw rfl hg)) ?_
                refine sc (sg (sp_move (od rfl))) ?_
                refine sc (sgT rfl fun hG => sp_move (od rfl)) ?_
                refine sc (sgT rfl fun hG => sp_move (od rfl)) ?_
                refine sc (sgT rfl fun hG => sp_move (od rfl)) ?_
                refine sc (sgT rfl fun hG => sp_mul (odw rfl hG) (odw rfl hG)) ?_
                refine sc (sgT rfl fun hG => sp_eql (odw rfl hG) (odw rfl hG)) ?_
                refine sc (sg (sp_pickAnd (od rfl) fun hg => odw rfl hg)) ?_
                refine sc (sg (sp_move (od rfl))) ?_
                refine sc (sgT rfl fun hG => sp_move (od rfl)) ?_
                refine sc (sgT rfl fun hG => sp_move (od rfl)) ?_
                refine sc (sgT rfl fun hG => sp_eql (odw rfl hG) (odw rfl hG)) ?_
                refine sc (sg (sp_pickAnd (od rfl) fun hg => odw rfl hg)) ?_
                refine sc (sg (sp_move (od rfl))) ?_
                refine sc (sgT rfl fun hG => sp_move (od rfl)) ?_
                refine sc (sgT rfl fun hG => sp_move (od rfl)) ?_
                refine sc (sgT rfl fun hG => sp_eqlB Try.underlying4 (odw rfl hG) (odw rfl hG)) ?_
                refine sc (sg (sp_pickAnd (od rfl) fun hg => odw rfl hg)) ?_
                refine sc (sg (sp_move (od rfl))) ?_
                refine sc (sgT rfl fun hG => sp_move (od rfl)) ?_
                refine sc (sgT rfl fun hG => sp_move (od rfl)) ?_
                refine sc (sgT rfl fun hG => sp_move (od rfl)) ?_
                refine sc (sgT rfl fun hG => sp_mul (odw rfl hG) (odw rfl hG)) ?_
                refine sc (sgT rfl fun hG => sp_eql (odw rfl hG) (odw rfl hG)) ?_
                refine sc (sg (sp_pickAnd (od rfl) fun hg => odw rfl hg)) ?_
                refine sc (sg (sp_assign (od rfl))) ?_
                refine sn fun a w hS => ?_
                refine exit_then ?_
                refine wp_ret ?_
                cases h
                exact st_ret hS (run_results1 Try.results7 a w) (hS.get rfl)

end Go.Proofs.Ytkbilbeaedocjaa
