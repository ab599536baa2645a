/-
  What is proved: each Go function named here returns what its model tells, and changes nothing that was there; where the model tells something.
-/
import Derived.Test.YtkbilbeaedocjaaWalkK0
import Derived.Test.YtkbilbeaedocjaaModelC
set_option linter.unusedVariables false
set_option maxRecDepth 100000
namespace Go.Proofs.Ytkbilbeaedocjaa
open Go Go.RowKit Go.Proofs.Ytkbilbeaedocjaa.Wh

theorem f72_ok {fuel : Nat} {p0 : S_api_Market} {p1 : List Int} {p2 : Int} {p3 : List Int} {r : Int} (h : M.f72 fuel p0 p1 p2 p3 = some r) : CallOK Try.prog 72 [isV p0, isV p1, isV p2, isV p3] (isV r) := by
  unfold M.f72 at h
  refine callS_of Try.func72 rfl Try.ntmps72 rfl fun F0 w0 a hS => ?_
  refine ws ?_
  refine st_reg mixed (by kernel_rfl) hS ?_
  refine cg (sp_box (od rfl)) ?_
  refine cg (sp_assign (odi)) ?_
  refine sn fun a w hS => ?_
  refine et ?_
  refine ws ?_
  refine ws ?_
  obtain ⟨v_1, e_2, h⟩ := bind_some h
  refine st_reg mixed (by kernel_rfl) hS ?_
  refine cg (sp_load ty24 (od rfl)) ?_
  refine cg (sp_call en42 (f42_ok e_2) ⟨od rfl, trivial⟩) ?_
  refine cg (sp_assign (od rfl)) ?_
  refine sn fun a w hS => ?_
  refine et ?_
  refine ws ?_
  refine st_reg mixed (by kernel_rfl) hS ?_
  refine mv rfl ?_
  refine cg (sp_neq (od rfl) (odi)) ?_
  refine sn fun a w hS => ?_
  refine et ?_
  refine st_cond hS rfl (fun hb => ?_) (fun hb => ?_)
  · have h := ite_t hb h
    refine ws ?_
    refine st_reg mixed (by kernel_rfl) hS ?_
    refine mv rfl ?_
    refine cg (sp_assign (od rfl)) ?_
    refine sn fun a w hS => ?_
    refine et ?_
    refine wp_ret ?_
    refine exit_thenR ?_
    cases h
    exact st_ret hS (run_results1 Try.results72 a w) (hS.get rfl)
  have h := ite_f hb h
  refine wp_skip ?_
  refine et ?_
  refine ws ?_
  refine ws ?_
  obtain ⟨v_3, e_4, h⟩ := bind_some h
  refine st_reg mixed (by kernel_rfl) hS ?_
  refine cg (sp_load ty24 (od rfl)) ?_
  refine mv rfl ?_
  refine cg (sp_call en88 (f88_ok e_4) ⟨od rfl, od rfl, trivial⟩) ?_
  refine cg (sp_not (od rfl)) ?_
  refine sn fun a w hS => ?_
  refine et ?_
  refine st_cond hS rfl (fun hb => ?_) (fun hb => ?_)
  · have h := ite_t hb h
    refine ws ?_
    refine st_reg mixed (by kernel_rfl) hS ?_
    refine cg (sp_assign (odi)) ?_
    refine sn fun a w hS => ?_
    refine et ?_
    refine wp_ret ?_
    refine exit_thenR ?_
    cases h
    exact st_ret hS (run_results1 Try.results72 a w) (hS.get rfl)
  have h := ite_f hb h
  refine wp_skip ?_
  refine et ?_
  refine ws ?_
  refine ws ?_
  refine st_reg mixed (by kernel_rfl) hS ?_
  refine cg (sp_assign (odi)) ?_
  refine sn fun a w hS => ?_
  refine et ?_
  refine wp_block ?_
  obtain ⟨o_6, e_7, hr_8⟩ := bind_some h
  refine c_loop (fun K a w => ∃ s_5 : Int, loopM _ K s_5 = some o_6 ∧ St 38 F0 [] [(2, isV (α := Int) p2), (3, isV (α := List Int) p3), (4, isA (α := S_api_Market) p0), (10, isV (α := Int) s_5)] w0 a w) ?_ ?_ ⟨_, e_7, hS.weak ⟨od rfl, od rfl, od rfl, od rfl, trivial⟩⟩
  · rintro a w ⟨_, hk, _⟩; cases hk
  rintro K a w ⟨s_5, hF_6, hS⟩
  obtain ⟨o, h, hN_6, hL_6⟩ := loop_more hF_6
  refine ws ?_
  refine ws ?_
  refine st_reg mixed (by kernel_rfl) hS ?_
  refine mv rfl ?_
  refine mv rfl ?_
  refine cg (sp_len Try.underlying27 (od rfl)) ?_
  refine cg (sp_lss (od rfl) (od rfl)) ?_
  refine sn fun a w hS => ?_
  refine et ?_
  refine st_cond hS rfl (fun hb => ?_) (fun hb => ?_)
  · have h := ite_t hb h
    refine wp_skip ?_
    refine et ?_
    refine ws ?_
    refine wp_block ?_
    refine ws ?_
    obtain ⟨v_9, e_10, h⟩ := bind_some h
    obtain ⟨v_11, e_12, h⟩ := bind_some h
    refine st_reg mixed (by kernel_rfl) hS ?_
    refine mv rfl ?_
    refine mv rfl ?_
    refine cg (sp_indexAddr sl27 (od rfl) (od rfl) e_10) ?_
    refine cg (sp_load ty3 (od rfl)) ?_
    refine cg (sp_fieldAddr fd24_0 (od rfl)) ?_
    refine cg (sp_load ty3 (od rfl)) ?_
    refine cg (sp_sub (od rfl) (odi)) ?_
    refine cg (sp_call en80 (f80_ok e_12) ⟨od rfl, odi, od rfl, trivial⟩) ?_
    refine cg (sp_not (od rfl)) ?_
    refine sn fun a w hS => ?_
    refine et ?_
    refine st_cond hS rfl (fun hb => ?_) (fun hb => ?_)
    · have h := ite_t hb h
      refine ws ?_
      refine st_reg mixed (by kernel_rfl) hS ?_
      refine cg (sp_assign (odi)) ?_
      refine sn fun a w hS => ?_
      refine et ?_
      refine wp_ret ?_
      refine exit_blockR ?_
      refine exit_thenR ?_
      cases h
      obtain rfl := hL_6 _ rfl
      have h := (sum_inr hr_8)
      refine exit_thenR ?_
      refine exit_blockR ?_
      refine exit_thenR ?_
      cases h
      exact st_ret hS (run_results1 Try.results72 a w) (hS.get rfl)
    have h := ite_f hb h
    refine wp_skip ?_
    refine exit_block ?_
    refine et ?_
    refine st_reg mixed (by kernel_rfl) hS ?_
    refine mv rfl ?_
    refine cg (sp_add (od rfl) (odi)) ?_
    refine cg (sp_assign (od rfl)) ?_
    refine sn fun a w hS => ?_
    cases h
    exact ⟨_, hN_6 _ rfl, hS.weak ⟨od rfl, od rfl, od rfl, od rfl, trivial⟩⟩
  have h := ite_f hb h
  refine wp_exit ?_
  refine exit_thenE ?_
  cases h
  obtain rfl := hL_6 _ rfl
  have h := (sum_inl hr_8)
  refine exit_thenE ?_
  refine exit_here ?_
  refine et ?_
  refine ws ?_
  refine ws ?_
  obtain ⟨v_13, e_14, h⟩ := bind_some h
  refine st_reg mixed (by kernel_rfl) hS ?_
  refine mv rfl ?_
  refine cg (sp_call en80 (f80_ok e_14) ⟨od rfl, odi, odi, trivial⟩) ?_
  refine cg (sp_not (od rfl)) ?_
  refine sn fun a w hS => ?_
  refine et ?_
  refine st_cond hS rfl (fun hb => ?_) (fun hb => ?_)
  · have h := ite_t hb h
    refine ws ?_
    refine st_reg mixed (by kernel_rfl) hS ?_
    refine cg (sp_assign (odi)) ?_
    refine sn fun a w hS => ?_
    refine et ?_
    refine wp_ret ?_
    refine exit_thenR ?_
    cases h
    exact st_ret hS (run_results1 Try.results72 a w) (hS.get rfl)
  have h := ite_f hb h
  refine wp_skip ?_
  refine et ?_
  refine ws ?_
  refine st_reg mixed (by kernel_rfl) hS ?_
  refine cg (sp_assign (odi)) ?_
  refine sn fun a w hS => ?_
  refine et ?_
  refine wp_ret ?_
  cases h
  exact st_ret hS (run_results1 Try.results72 a w) (hS.get rfl)

theorem f75_ok {p0 : S_api_Market} {r : Int} (h : M.f75 p0 = some r) : CallOK Try.prog 75 [isV p0] (isV r) := by
  unfold M.f75 at h
  refine callS_of Try.func75 rfl Try.ntmps75 rfl fun F0 w0 a hS => ?_
  refine ws ?_
  refine st_reg mixed (by kernel_rfl) hS ?_
  refine cg (sp_box (od rfl)) ?_
  refine cg (sp_assign (odi)) ?_
  refine sn fun a w hS => ?_
  refine et ?_
  refine ws ?_
  obtain ⟨v_1, e_2, h⟩ := bind_some h
  refine st_reg mixed (by kernel_rfl) hS ?_
  refine cg (sp_fieldAddr fd24_2 (od rfl)) ?_
  refine cg (sp_load ty22 (od rfl)) ?_
  refine cg (sp_len Try.underlying22 (od rfl)) ?_
  refine cg (sp_shl (odi) (od rfl) e_2) ?_
  refine cg (sp_sub (od rfl) (odi)) ?_
  refine cg (sp_assign (od rfl)) ?_
  refine sn fun a w hS => ?_
  refine et ?_
  refine wp_ret ?_
  cases h
  exact st_ret hS (run_results1 Try.results75 a w) (hS.get rfl)

theorem f74_ok {fuel : Nat} {p0 : S_api_Market} {p1 : Int} {r : (List Int)} (h : M.f74 fuel p0 p1 = some r) : CallOK Try.prog 74 [isV p0, isV p1] (isV r) := by
  unfold M.f74 at h
  refine callS_of Try.func74 rfl Try.ntmps74 rfl fun F0 w0 a hS => ?_
  refine ws ?_
  refine st_reg mixed (by kernel_rfl) hS ?_
  refine cg (sp_box (od rfl)) ?_
  refine cg (sp_assign (odnil (α := Int))) ?_
  refine sn fun a w hS => ?_
  refine et ?_
  refine ws ?_
  refine st_reg mixed (by kernel_rfl) hS ?_
  refine cg (sp_assign (φ := Pr.is (.slice none 0 0)) (odc fun _ => rfl)) ?_
  refine sn fun a w hS => ?_
  have hS := st_nil (α := Int) 3 hS
  have hS : St _ F0 [Item.sl (α := Int) 3 (.slice none 0 0) ([] : List Int)] _ w0 _ _ := hS
  refine et ?_
  refine ws ?_
  refine ws ?_
  refine st_reg mixed (by kernel_rfl) hS ?_
  refine cg (sp_assign (odi)) ?_
  refine sn fun a w hS => ?_
  refine et ?_
  refine wp_block ?_
  obtain ⟨o_2, e_3, hr_4⟩ := bind_some h
  refine c_loop (fun K a w => ∃ s_1 : Int × (List Int), ∃ u_5 : Value, loopM _ K s_1 = some o_2 ∧ St 24 F0 [Item.sl (α := Int) 3 u_5 s_1.2] [(1, isV (α := Int) p1), (2, isA (α := S_api_Market) p0), (5, Pr.is u_5), (6, isV (α := Int) s_1.1)] w0 a w) ?_ ?_ ⟨_, (.slice none 0 0), e_3, hS.weak ⟨od rfl, od rfl, od rfl, od rfl, trivial⟩⟩
  · rintro a w ⟨_, _, hk, _⟩; cases hk
  rintro K a w ⟨s_1, u_5, hF_2, hS⟩
  obtain ⟨o, h, hN_2, hL_2⟩ := loop_more hF_2
  refine ws ?_
  refine ws ?_
  refine st_reg mixed (by kernel_rfl) hS ?_
  refine mv rfl ?_
  refine cg (sp_fieldAddr fd24_2 (od rfl)) ?_
  refine cg (sp_load ty22 (od rfl)) ?_
  refine cg (sp_len Try.underlying22 (od rfl)) ?_
  refine cg (sp_lss (od rfl) (od rfl)) ?_
  refine sn fun a w hS => ?_
  refine et ?_
  refine st_cond hS rfl (fun hb => ?_) (fun hb => ?_)
  · have h := ite_t hb h
    refine wp_skip ?_
    refine et ?_
    refine ws ?_
    refine wp_block ?_
    refine ws ?_
    obtain ⟨v_6, e_7, h⟩ := bind_some h
    refine st_reg mixed (by kernel_rfl) hS ?_
    refine mv rfl ?_
    refine mv rfl ?_
    refine cg (sp_shr (od rfl) (od rfl) e_7) ?_
    refine cg (sp_and (od rfl) (odi)) ?_
    refine cg (sp_eql (od rfl) (odi)) ?_
    refine sn fun a w hS => ?_
    refine et ?_
    obtain ⟨y_9, hj_8, h⟩ := bind_some h
    refine wp_mono (Q := fun e a w => e = Exit.normal ∧ ∃ u_10 : Value, St 24 F0 [Item.sl (α := Int) 3 u_10 y_9] [(1, isV (α := Int) p1), (2, isA (α := S_api_Market) p0), (5, Pr.is u_10), (6, isV (α := Int) s_1.1)] w0 a w) ?_ ?_
    · refine st_cond hS rfl (fun hb => ?_) (fun hb => ?_)
      · have h := ite_t hb hj_8
        obtain ⟨z_11, e_12, h⟩ := bind_some h
        refine l_start ?_
        refine s_c hS (sg (sp_move (od rfl))) rfl fun a w hS hM => ?_
        refine s_c hS (sg (sp_move (od rfl))) rfl fun a w hS hM => ?_
        refine s_c hS (sg (sp_buildSlice [.tmp 20] ([s_1.1] : List Int) sl27 ze3 rfl rfl rfl rfl ⟨od rfl, trivial⟩)) rfl fun a w hS hM => ?_
        refine s_append (k := 0) (Δ := [(1, isV (α := Int) p1), (2, isA (α := S_api_Market) p0), (6, isV (α := Int) s_1.1), (19, Pr.is u_5), (21, isV (α := List Int) ([s_1.1] : List Int))]) sl27 ze3 hS rfl ⟨od rfl, od rfl, od rfl, od rfl, od rfl, trivial⟩ ⟨fun _ _ _ _ h => h, fun _ _ _ _ h => h, fun _ _ _ _ h => h, fun _ _ _ _ h => h, fun _ _ _ _ h => h, trivial⟩ (od rfl) (od rfl) e_12 rfl fun a w u_13 hS hM => ?_
        have hS : St _ F0 [Item.sl (α := Int) 3 u_13 z_11] _ w0 _ _ := hS
        refine s_c hS (sg (sp_assign (od rfl))) rfl fun a w hS hM => ?_
        refine l_end ?_
        cases h
        exact ⟨rfl, u_13, hS.weak ⟨od rfl, od rfl, od rfl, od rfl, trivial⟩⟩
      have h := ite_f hb hj_8
      refine wp_skip ?_
      cases h
      exact ⟨rfl, u_5, hS.weak ⟨od rfl, od rfl, od rfl, od rfl, trivial⟩⟩
    rintro e a w ⟨rfl, u_10, hS⟩
    refine exit_block ?_
    refine et ?_
    refine st_reg mixed (by kernel_rfl) hS ?_
    refine mv rfl ?_
    refine cg (sp_add (od rfl) (odi)) ?_
    refine cg (sp_assign (od rfl)) ?_
    refine sn fun a w hS => ?_
    cases h
    exact ⟨_, u_10, hN_2 _ rfl, hS.weak ⟨od rfl, od rfl, od rfl, od rfl, trivial⟩⟩
  have h := ite_f hb h
  refine wp_exit ?_
  refine exit_thenE ?_
  cases h
  obtain rfl := hL_2 _ rfl
  have h := hr_4
  refine exit_thenE ?_
  refine exit_here ?_
  refine et ?_
  refine ws ?_
  refine st_reg mixed (by kernel_rfl) hS ?_
  refine mv rfl ?_
  refine cg (sp_assign (od rfl)) ?_
  refine sn fun a w hS => ?_
  refine et ?_
  refine wp_ret ?_
  have hS0 := hS
  have hS := st_freeze 0 4 hS rfl rfl
  have hS := st_also (t := 4) (q := 5) hS0 hS rfl rfl rfl
  have hS := st_also (t := 4) (q := 23) hS0 hS rfl rfl rfl
  cases h
  exact st_ret hS (run_results1 Try.results74 a w) (hS.get rfl)

theorem f102_ok {fuel : Nat} {p0 : S_api_Market} {p1 : List Int} {r : (List S_api_Offer)} (h : M.f102 fuel p0 p1 = some r) : CallOK Try.prog 102 [isV p0, isV p1] (isV r) := by
  unfold M.f102 at h
  refine callS_of Try.func102 rfl Try.ntmps102 rfl fun F0 w0 a hS => ?_
  refine ws ?_
  refine st_reg mixed (by kernel_rfl) hS ?_
  refine cg (sp_box (od rfl)) ?_
  refine cg (sp_assign (odnil (α := S_api_Offer))) ?_
  refine sn fun a w hS => ?_
  refine et ?_
  refine ws ?_
  refine st_reg mixed (by kernel_rfl) hS ?_
  refine cg (sp_assign (φ := Pr.is (.slice none 0 0)) (odc fun _ => rfl)) ?_
  refine sn fun a w hS => ?_
  have hS := st_nil (α := S_api_Offer) 59 hS
  have hS : St _ F0 [Item.sl (α := S_api_Offer) 59 (.slice none 0 0) ([] : List S_api_Offer)] _ w0 _ _ := hS
  refine et ?_
  refine ws ?_
  obtain ⟨z_1, e_2, h⟩ := bind_some h
  refine l_start ?_
  refine s_c hS (sg (sp_move (od rfl))) rfl fun a w hS hM => ?_
  refine s_c hS (sg (sp_fieldAddr fd24_1 (od rfl))) rfl fun a w hS hM => ?_
  refine s_c hS (sg (sp_load ty22 (od rfl))) rfl fun a w hS hM => ?_
  refine s_append (k := 0) (Δ := [(1, isV (α := List Int) p1), (2, isA (α := S_api_Market) p0), (7, Pr.is (.slice none 0 0)), (9, isV (α := List S_api_Offer) p0.2.1)]) sl22 ze59 hS rfl ⟨od rfl, od rfl, od rfl, od rfl, trivial⟩ ⟨fun _ _ _ _ h => h, fun _ _ _ _ h => h, fun _ _ _ _ h => h, fun _ _ _ _ h => h, trivial⟩ (od rfl) (od rfl) e_2 rfl fun a w u_3 hS hM => ?_
  have hS : St _ F0 [Item.sl (α := S_api_Offer) 59 u_3 z_1] _ w0 _ _ := hS
  refine s_c hS (sg (sp_assign (od rfl))) rfl fun a w hS hM => ?_
  refine l_end ?_
  refine et ?_
  refine ws ?_
  refine ws ?_
  refine st_reg mixed (by kernel_rfl) hS ?_
  refine cg (sp_assign (odi)) ?_
  refine sn fun a w hS => ?_
  refine et ?_
  refine wp_block ?_
  obtain ⟨o_5, e_6, hr_7⟩ := bind_some h
  refine c_loop (fun K a w => ∃ s_4 : Int × (List S_api_Offer), ∃ u_8 : Value, loopM _ K s_4 = some o_5 ∧ St 29 F0 [Item.sl (α := S_api_Offer) 59 u_8 s_4.2] [(1, isV (α := List Int) p1), (2, isA (α := S_api_Market) p0), (5, Pr.is u_8), (6, isV (α := Int) s_4.1)] w0 a w) ?_ ?_ ⟨_, u_3, e_6, hS.weak ⟨od rfl, od rfl, od rfl, od rfl, trivial⟩⟩
  · rintro a w ⟨_, _, hk, _⟩; cases hk
  rintro K a w ⟨s_4, u_8, hF_5, hS⟩
  obtain ⟨o, h, hN_5, hL_5⟩ := loop_more hF_5
  refine ws ?_
  refine ws ?_
  refine st_reg mixed (by kernel_rfl) hS ?_
  refine mv rfl ?_
  refine mv rfl ?_
  refine cg (sp_len Try.underlying27 (od rfl)) ?_
  refine cg (sp_lss (od rfl) (od rfl)) ?_
  refine sn fun a w hS => ?_
  refine et ?_
  refine st_cond hS rfl (fun hb => ?_) (fun hb => ?_)
  · have h := ite_t hb h
    refine wp_skip ?_
    refine et ?_
    refine ws ?_
    refine wp_block ?_
    obtain ⟨v_9, e_10, h⟩ := bind_some h
    obtain ⟨v_11, e_12, h⟩ := bind_some h
    obtain ⟨z_13, e_14, h⟩ := bind_some h
    refine st_float mixed [0, 0, 0, 0, 0, 0, 0, 0, 0, 0, 2, 2] (by kernel_rfl) (by kernel_rfl) hS ?_
    refine sfA (sg (sp_move (od rfl))) ?_
    refine sfA (sg (sp_fieldAddr fd24_2 (od rfl))) ?_
    refine sfA (sg (sp_load ty22 (od rfl))) ?_
    refine sfA (sg (sp_move (od rfl))) ?_
    refine sfA (sg (sp_move (od rfl))) ?_
    refine sfA (sg (sp_indexAddr sl27 (od rfl) (od rfl) e_10)) ?_
    refine sfA (sg (sp_load ty3 (od rfl))) ?_
    refine sfA (sg (sp_indexAddr sl22 (od rfl) (od rfl) e_12)) ?_
    refine sfA (sg (sp_load ty59 (od rfl))) ?_
    refine sfA (sg (sp_buildSlice [.tmp 25] ([v_11] : List S_api_Offer) sl22 ze59 rfl rfl rfl rfl ⟨od rfl, trivial⟩)) ?_
    refine sfT ?_
    refine sfT ?_
    refine sfN fun c a w hS hC => ?_
    refine ls ?_
    refine s_append (k := 0) (Δ := [(1, isV (α := List Int) p1), (2, isA (α := S_api_Market) p0), (6, isV (α := Int) s_4.1), (17, Pr.is u_8), (26, isV (α := List S_api_Offer) ([v_11] : List S_api_Offer))]) sl22 ze59 hS rfl ⟨od rfl, od rfl, od rfl, od rfl, od rfl, trivial⟩ ⟨fun _ _ _ _ h => h, fun _ _ _ _ h => h, fun _ _ _ _ h => h, fun _ _ _ _ h => h, fun _ _ _ _ h => h, trivial⟩ (od rfl) (od rfl) e_14 rfl fun a w u_15 hS hM => ?_
    have hS : St _ F0 [Item.sl (α := S_api_Offer) 59 u_15 z_13] _ w0 _ _ := hS
    have hC := Mem.le_trans hC hM
    refine s_next hC ?_
    refine ls ?_
    refine s_c hS (sg (sp_assign (od rfl))) rfl fun a w hS hM => ?_
    have hC := Mem.le_trans hC hM
    refine s_next hC ?_
    refine s_done ?_
    refine exit_block ?_
    refine et ?_
    refine st_reg mixed (by kernel_rfl) hS ?_
    refine mv rfl ?_
    refine cg (sp_add (od rfl) (odi)) ?_
    refine cg (sp_assign (od rfl)) ?_
    refine sn fun a w hS => ?_
    cases h
    exact ⟨_, u_15, hN_5 _ rfl, hS.weak ⟨od rfl, od rfl, od rfl, od rfl, trivial⟩⟩
  have h := ite_f hb h
  refine wp_exit ?_
  refine exit_thenE ?_
  cases h
  obtain rfl := hL_5 _ rfl
  have h := hr_7
  refine exit_thenE ?_
  refine exit_here ?_
  refine et ?_
  refine ws ?_
  refine st_reg mixed (by kernel_rfl) hS ?_
  refine mv rfl ?_
  refine cg (sp_assign (od rfl)) ?_
  refine sn fun a w hS => ?_
  refine et ?_
  refine wp_ret ?_
  have hS0 := hS
  have hS := st_freeze 0 4 hS rfl rfl
  have hS := st_also (t := 4) (q := 5) hS0 hS rfl rfl rfl
  have hS := st_also (t := 4) (q := 28) hS0 hS rfl rfl rfl
  cases h
  exact st_ret hS (run_results1 Try.results102 a w) (hS.get rfl)

theorem f101_ok {fuel : Nat} {p0 : Int} {p1 : List S_api_Offer} {r : (List (List Int))} (h : M.f101 fuel p0 p1 = some r) : CallI Try.prog 101 [isV p0, isV p1] (resTab 27 3 r) := by
  unfold M.f101 at h
  refine callI_of Try.func101 rfl Try.ntmps101 rfl fun F0 w0 a hS => ?_
  refine ws ?_
  refine st_reg mixed (by kernel_rfl) hS ?_
  refine cg (sp_assign (odnil (α := List Int))) ?_
  refine sn fun a w hS => ?_
  refine et ?_
  refine ws ?_
  refine st_reg mixed (by kernel_rfl) hS ?_
  refine cg (sp_assign (φ := Pr.is (.slice none 0 0)) (odc fun _ => rfl)) ?_
  refine sn fun a w hS => ?_
  have hS := st_nilT (α := Int) 27 3 hS
  have hS : St _ F0 [Item.tab (α := Int) 27 3 (.slice none 0 0) (ob (.slice none 0 0)) [] ([] : List (List Int))] _ w0 _ _ := hS
  refine et ?_
  refine ws ?_
  refine ws ?_
  refine st_reg mixed (by kernel_rfl) hS ?_
  refine cg (sp_assign (odi)) ?_
  refine sn fun a w hS => ?_
  refine et ?_
  refine wp_block ?_
  obtain ⟨o_2, e_3, hr_4⟩ := bind_some h
  refine c_loop (fun K a w => ∃ s_1 : Int × (List (List Int)), ∃ u_5 : Value, ∃ o_6 : Nat → Bool, ∃ rs_7 : List Value, loopM _ K s_1 = some o_2 ∧ St 135 F0 [Item.tab (α := Int) 27 3 u_5 o_6 rs_7 s_1.2] [(0, isV (α := Int) p0), (1, isV (α := List S_api_Offer) p1), (5, Pr.is u_5), (6, isV (α := Int) s_1.1)] w0 a w) ?_ ?_ ⟨_, (.slice none 0 0), (ob (.slice none 0 0)), [], e_3, hS.weak ⟨od rfl, od rfl, od rfl, od rfl, trivial⟩⟩
  · rintro a w ⟨_, _, _, _, hk, _⟩; cases hk
  rintro K a w ⟨s_1, u_5, o_6, rs_7, hF_2, hS⟩
  obtain ⟨o, h, hN_2, hL_2⟩ := loop_more hF_2
  refine ws ?_
  refine ws ?_
  refine st_reg mixed (by kernel_rfl) hS ?_
  refine mv rfl ?_
  refine mv rfl ?_
  refine cg (sp_lss (od rfl) (od rfl)) ?_
  refine sn fun a w hS => ?_
  refine et ?_
  refine st_cond hS rfl (fun hb => ?_) (fun hb => ?_)
  · have h := ite_t hb h
    refine wp_skip ?_
    refine et ?_
    refine ws ?_
    refine wp_block ?_
    refine ws ?_
    refine st_reg mixed (by kernel_rfl) hS ?_
    refine cg (sp_assign (φ := Pr.is (.slice none 0 0)) (odc fun _ => rfl)) ?_
    refine sn fun a w hS => ?_
    have hS := st_nil (α := Int) 3 hS
    have hS : St _ F0 [Item.tab (α := Int) 27 3 u_5 o_6 rs_7 s_1.2, Item.sl (α := Int) 3 (.slice none 0 0) ([] : List Int)] _ w0 _ _ := hS
    refine et ?_
    refine ws ?_
    refine ws ?_
    refine st_reg mixed (by kernel_rfl) hS ?_
    refine cg (sp_assign (odi)) ?_
    refine sn fun a w hS => ?_
    refine et ?_
    refine wp_block ?_
    obtain ⟨o_9, e_10, hr_11⟩ := bind_some h
    refine c_loop (fun K a w => ∃ s_8 : Int × (List Int), ∃ u_12 : Value, loopM _ K s_8 = some o_9 ∧ St 135 F0 [Item.tab (α := Int) 27 3 u_5 o_6 rs_7 s_1.2, Item.sl (α := Int) 3 u_12 s_8.2] [(0, isV (α := Int) p0), (1, isV (α := List S_api_Offer) p1), (5, Pr.is u_5), (6, isV (α := Int) s_1.1), (7, Pr.is u_12), (8, isV (α := Int) s_8.1)] w0 a w) ?_ ?_ ⟨_, (.slice none 0 0), e_10, hS.weak ⟨od rfl, od rfl, od rfl, od rfl, od rfl, od rfl, trivial⟩⟩
    · rintro a w ⟨_, _, hk, _⟩; cases hk
    rintro K a w ⟨s_8, u_12, hF_9, hS⟩
    obtain ⟨o, h, hN_9, hL_9⟩ := loop_more hF_9
    refine ws ?_
    refine ws ?_
    refine st_reg mixed (by kernel_rfl) hS ?_
    refine mv rfl ?_
    refine mv rfl ?_
    refine cg (sp_lss (od rfl) (od rfl)) ?_
    refine sn fun a w hS => ?_
    refine et ?_
    refine st_cond hS rfl (fun hb => ?_) (fun hb => ?_)
    · have h := ite_t hb h
      refine wp_skip ?_
      refine et ?_
      refine ws ?_
      refine wp_block ?_
      obtain ⟨z_13, e_14, h⟩ := bind_some h
      refine l_start ?_
      refine s_c hS (sg (sp_move (od rfl))) rfl fun a w hS hM => ?_
      refine s_c hS (sg (sp_buildSlice [.const (.int .i64 (1099511627776))] ([1099511627776] : List Int) sl27 ze3 rfl rfl rfl rfl ⟨odi, trivial⟩)) rfl fun a w hS hM => ?_
      refine s_append (k := 1) (Δ := [(0, isV (α := Int) p0), (1, isV (α := List S_api_Offer) p1), (5, Pr.is u_5), (6, isV (α := Int) s_1.1), (8, isV (α := Int) s_8.1), (26, Pr.is u_12), (27, isV (α := List Int) ([1099511627776] : List Int))]) sl27 ze3 hS rfl ⟨od rfl, od rfl, od rfl, od rfl, od rfl, od rfl, od rfl, trivial⟩ ⟨fun _ _ _ _ h => h, fun _ _ _ _ h => h, fun _ _ _ _ h => h, fun _ _ _ _ h => h, fun _ _ _ _ h => h, fun _ _ _ _ h => h, fun _ _ _ _ h => h, trivial⟩ (od rfl) (od rfl) e_14 rfl fun a w u_15 hS hM => ?_
      have hS : St _ F0 [Item.tab (α := Int) 27 3 u_5 o_6 rs_7 s_1.2, Item.sl (α := Int) 3 u_15 z_13] _ w0 _ _ := hS
      refine s_c hS (sg (sp_assign (od rfl))) rfl fun a w hS hM => ?_
      refine l_end ?_
      refine exit_block ?_
      refine et ?_
      refine st_reg mixed (by kernel_rfl) hS ?_
      refine mv rfl ?_
      refine cg (sp_add (od rfl) (odi)) ?_
      refine cg (sp_assign (od rfl)) ?_
      refine sn fun a w hS => ?_
      cases h
      exact ⟨_, u_15, hN_9 _ rfl, hS.weak ⟨od rfl, od rfl, od rfl, od rfl, od rfl, od rfl, trivial⟩⟩
    have h := ite_f hb h
    refine wp_exit ?_
    refine exit_thenE ?_
    cases h
    obtain rfl := hL_9 _ rfl
    have h := hr_11
    refine exit_thenE ?_
    refine exit_here ?_
    refine et ?_
    refine ws ?_
    obtain ⟨z_16, e_17, h⟩ := bind_some h
    refine l_start ?_
    refine s_c hS (sg (sp_move (od rfl))) rfl fun a w hS hM => ?_
    refine s_c hS (sg (sp_move (od rfl))) rfl fun a w hS hM => ?_
    refine s_c hS (sg (sp_buildSlice [.tmp 30] [Raw.mk u_12] slR75 zeR27 rfl rfl rfl rfl ⟨odRaw (od rfl) (hS.one (k := 1) rfl), trivial⟩)) rfl fun a w hS hM => ?_
    refine s_appendT (k := 0) (k2 := 1) (Δ := (31, isV [Raw.mk u_12]) :: [(0, isV (α := Int) p0), (1, isV (α := List S_api_Offer) p1), (6, isV (α := Int) s_1.1), (29, Pr.is u_5)]) slR75 zeR27 hS rfl rfl rfl ⟨od rfl, od rfl, od rfl, od rfl, od rfl, trivial⟩ ⟨fun _ _ _ _ h => h, fun _ _ _ _ h => h, fun _ _ _ _ h => h, fun _ _ _ _ h => h, fun _ _ _ _ h => h, trivial⟩ (od rfl) (od rfl) e_17 rfl fun a w u_18 o_19 hS hM => ?_
    have hS : St _ F0 [Item.tab (α := Int) 27 3 u_18 o_19 (rs_7 ++ [u_12]) z_16] _ w0 _ _ := hS
    refine s_c hS (sg (sp_assign (od rfl))) rfl fun a w hS hM => ?_
    refine l_end ?_
    refine et ?_
    obtain ⟨v_20, e_21, h⟩ := bind_some h
    obtain ⟨v_22, e_23, h⟩ := bind_some h
    obtain ⟨z_24, e_25, h⟩ := bind_some h
    refine l_start ?_
    refine s_c hS (sg (sp_move (od rfl))) rfl fun a w hS hM => ?_
    refine s_c hS (sg (sp_move (od rfl))) rfl fun a w hS hM => ?_
    have hS := st_tab 0 32 hS rfl rfl
    have hS := st_tab 0 5 hS rfl rfl
    have hS := st_tab 0 33 hS rfl rfl
    refine s_c hS (sg (sp_indexAddrT Try.underlying75 sz27 (od rfl) (od rfl) e_21)) rfl fun a w hS hM => ?_
    refine s_c hS (sg (sp_loadTR Try.underlying27 (od rfl))) rfl fun a w hS hM => ?_
    refine s_c hS (sg (sp_move (od rfl))) rfl fun a w hS hM => ?_
    refine s_c hS (sg (sp_indexAddrTA sl27 (od rfl) (od rfl) e_23)) rfl fun a w hS hM => ?_
    refine s_storeTA (k := 0) (i := s_1.1) (j := s_1.1) (Δ := [(0, isV (α := Int) p0), (1, isV (α := List S_api_Offer) p1), (5, Pr.is u_18), (6, isV (α := Int) s_1.1), (38, isHA Int (rs_7 ++ [u_12]) s_1.1.toNat s_1.1.toNat)]) ty3 hS rfl ⟨od rfl, od rfl, odTab rfl, od rfl, odHA rfl, trivial⟩ ⟨fun _ _ _ _ h => h, fun _ _ _ _ h => h, fun _ _ _ _ h => h, fun _ _ _ _ h => h, fun _ _ _ _ h => h, trivial⟩ (odHA rfl) (odi) e_25 fun w hS hM => ?_
    have hS : St _ F0 [Item.tab (α := Int) 27 3 u_18 o_19 (rs_7 ++ [u_12]) z_24] _ w0 _ _ := hS
    refine l_end ?_
    refine exit_block ?_
    refine et ?_
    refine st_reg mixed (by kernel_rfl) hS ?_
    refine mv rfl ?_
    refine cg (sp_add (od rfl) (odi)) ?_
    refine cg (sp_assign (od rfl)) ?_
    refine sn fun a w hS => ?_
    cases h
    exact ⟨_, u_18, o_19, (rs_7 ++ [u_12]), hN_2 _ rfl, hS.weak ⟨od rfl, od rfl, od rfl, od rfl, trivial⟩⟩
  have h := ite_f hb h
  refine wp_exit ?_
  refine exit_thenE ?_
  cases h
  obtain rfl := hL_2 _ rfl
  have h := hr_4
  refine exit_thenE ?_
  refine exit_here ?_
  refine et ?_
  refine ws ?_
  refine ws ?_
  refine st_reg mixed (by kernel_rfl) hS ?_
  refine cg (sp_assign (odi)) ?_
  refine sn fun a w hS => ?_
  refine et ?_
  refine wp_block ?_
  obtain ⟨o_38, e_39, hr_40⟩ := bind_some h
  refine c_loop (fun K a w => ∃ s_37 : Int × (List (List Int)), loopM _ K s_37 = some o_38 ∧ St 135 F0 [Item.tab (α := Int) 27 3 u_5 o_6 rs_7 s_37.2] [(0, isV (α := Int) p0), (1, isV (α := List S_api_Offer) p1), (5, Pr.is u_5), (9, isV (α := Int) s_37.1)] w0 a w) ?_ ?_ ⟨_, e_39, hS.weak ⟨od rfl, od rfl, od rfl, od rfl, trivial⟩⟩
  · rintro a w ⟨_, hk, _⟩; cases hk
  rintro K a w ⟨s_37, hF_38, hS⟩
  obtain ⟨o, h, hN_38, hL_38⟩ := loop_more hF_38
  refine ws ?_
  refine ws ?_
  refine st_reg mixed (by kernel_rfl) hS ?_
  refine mv rfl ?_
  refine mv rfl ?_
  refine cg (sp_len Try.underlying22 (od rfl)) ?_
  refine cg (sp_lss (od rfl) (od rfl)) ?_
  refine sn fun a w hS => ?_
  refine et ?_
  refine st_cond hS rfl (fun hb => ?_) (fun hb => ?_)
  · have h := ite_t hb h
    refine wp_skip ?_
    refine et ?_
    refine ws ?_
    refine wp_block ?_
    refine ws ?_
    obtain ⟨v_41, e_42, h⟩ := bind_some h
    obtain ⟨v_43, e_44, h⟩ := bind_some h
    obtain ⟨v_45, e_46, h⟩ := bind_some h
    refine st_reg mixed (by kernel_rfl) hS ?_
    refine mv rfl ?_
    refine mv rfl ?_
    refine cg (sp_indexAddr sl22 (od rfl) (od rfl) e_42) ?_
    refine cg (sp_fieldAddr fd59_0 (od rfl)) ?_
    refine cg (sp_load ty3 (od rfl)) ?_
    refine mv rfl ?_
    refine mv rfl ?_
    refine cg (sp_indexAddr sl22 (od rfl) (od rfl) e_44) ?_
    refine cg (sp_fieldAddr fd59_1 (od rfl)) ?_
    refine cg (sp_load ty3 (od rfl)) ?_
    refine mv rfl ?_
    refine mv rfl ?_
    refine cg (sp_indexAddr sl22 (od rfl) (od rfl) e_46) ?_
    refine cg (sp_fieldAddr fd59_3 (od rfl)) ?_
    refine cg (sp_load ty3 (od rfl)) ?_
    refine cg (sp_assign (od rfl)) ?_
    refine cg (sp_assign (od rfl)) ?_
    refine cg (sp_assign (od rfl)) ?_
    refine sn fun a w hS => ?_
    refine et ?_
    refine ws ?_
    have hS := st_tab 0 5 hS rfl rfl
    obtain ⟨v_47, e_48, h⟩ := bind_some h
    obtain ⟨v_49, e_50, h⟩ := bind_some h
    obtain ⟨v_51, e_52, h⟩ := bind_some h
    obtain ⟨v_53, e_54, h⟩ := bind_some h
    obtain ⟨z_55, e_56, h⟩ := bind_some h
    refine st_float mixed [0, 0, 0, 0, 0, 0, 0, 0, 0, 0, 0, 0, 0, 0, 0, 2] (by kernel_rfl) (by kernel_rfl) hS ?_
    refine sfA (sg (sp_move (od rfl))) ?_
    refine sfA (sg (sp_move (od rfl))) ?_
    refine sfA (sg (sp_indexAddrT Try.underlying75 sz27 (od rfl) (od rfl) e_48)) ?_
    refine sfA (sg (sp_loadTR Try.underlying27 (od rfl))) ?_
    refine sfA (sg (sp_move (od rfl))) ?_
    refine sfA (sg (sp_move (od rfl))) ?_
    refine sfA (sg (sp_move (od rfl))) ?_
    refine sfA (sg (sp_indexAddrT Try.underlying75 sz27 (od rfl) (od rfl) e_50)) ?_
    refine sfA (sg (sp_loadTR Try.underlying27 (od rfl))) ?_
    refine sfA (sg (sp_move (od rfl))) ?_
    refine sfA (sg (sp_indexAddrTA sl27 (od rfl) (od rfl) e_52)) ?_
    refine sfA (sg (sp_loadTA ty3 (od rfl))) ?_
    refine sfA (sg (sp_move (od rfl))) ?_
    refine sfA (sg (sp_min (od rfl) (od rfl))) ?_
    refine sfA (sg (sp_indexAddrTA sl27 (od rfl) (od rfl) e_54)) ?_
    refine sfT ?_
    refine sfN fun c a w hS hC => ?_
    refine ls ?_
    refine s_storeTA (k := 0) (i := v_41.1) (j := v_43.2.1) (Δ := [(0, isV (α := Int) p0), (1, isV (α := List S_api_Offer) p1), (5, Pr.is u_5), (9, isV (α := Int) s_37.1), (10, isV (α := Int) v_41.1), (11, isV (α := Int) v_43.2.1), (12, isV (α := Int) v_45.2.2.2), (73, isV (α := Int) (imin v_51 v_45.2.2.2)), (74, isHA Int rs_7 v_41.1.toNat v_43.2.1.toNat)]) ty3 hS rfl ⟨od rfl, od rfl, odTab rfl, od rfl, od rfl, od rfl, od rfl, od rfl, odHA rfl, trivial⟩ ⟨fun _ _ _ _ h => h, fun _ _ _ _ h => h, fun _ _ _ _ h => h, fun _ _ _ _ h => h, fun _ _ _ _ h => h, fun _ _ _ _ h => h, fun _ _ _ _ h => h, fun _ _ _ _ h => h, fun _ _ _ _ h => h, trivial⟩ (odHA rfl) (od rfl) e_56 fun w hS hM => ?_
    have hS : St _ F0 [Item.tab (α := Int) 27 3 u_5 o_6 rs_7 z_55] _ w0 _ _ := hS
    have hC := Mem.le_trans hC hM
    refine s_next hC ?_
    refine s_done ?_
    refine et ?_
    have hS := st_tab 0 5 hS rfl rfl
    obtain ⟨v_57, e_58, h⟩ := bind_some h
    obtain ⟨v_59, e_60, h⟩ := bind_some h
    obtain ⟨v_61, e_62, h⟩ := bind_some h
    obtain ⟨v_63, e_64, h⟩ := bind_some h
    obtain ⟨z_65, e_66, h⟩ := bind_some h
    refine st_float mixed [0, 0, 0, 0, 0, 0, 0, 0, 0, 0, 0, 0, 0, 0, 0, 2] (by kernel_rfl) (by kernel_rfl) hS ?_
    refine sfA (sg (sp_move (od rfl))) ?_
    refine sfA (sg (sp_move (od rfl))) ?_
    refine sfA (sg (sp_indexAddrT Try.underlying75 sz27 (od rfl) (od rfl) e_58)) ?_
    refine sfA (sg (sp_loadTR Try.underlying27 (od rfl))) ?_
    refine sfA (sg (sp_move (od rfl))) ?_
    refine sfA (sg (sp_move (od rfl))) ?_
    refine sfA (sg (sp_move (od rfl))) ?_
    refine sfA (sg (sp_indexAddrT Try.underlying75 sz27 (od rfl) (od rfl) e_60)) ?_
    refine sfA (sg (sp_loadTR Try.underlying27 (od rfl))) ?_
    refine sfA (sg (sp_move (od rfl))) ?_
    refine sfA (sg (sp_indexAddrTA sl27 (od rfl) (od rfl) e_62)) ?_
    refine sfA (sg (sp_loadTA ty3 (od rfl))) ?_
    refine sfA (sg (sp_move (od rfl))) ?_
    refine sfA (sg (sp_min (od rfl) (od rfl))) ?_
    refine sfA (sg (sp_indexAddrTA sl27 (od rfl) (od rfl) e_64)) ?_
    refine sfT ?_
    refine sfN fun c a w hS hC => ?_
    refine ls ?_
    refine s_storeTA (k := 0) (i := v_43.2.1) (j := v_41.1) (Δ := [(0, isV (α := Int) p0), (1, isV (α := List S_api_Offer) p1), (5, Pr.is u_5), (9, isV (α := Int) s_37.1), (88, isV (α := Int) (imin v_61 v_45.2.2.2)), (89, isHA Int rs_7 v_43.2.1.toNat v_41.1.toNat)]) ty3 hS rfl ⟨od rfl, od rfl, odTab rfl, od rfl, od rfl, odHA rfl, trivial⟩ ⟨fun _ _ _ _ h => h, fun _ _ _ _ h => h, fun _ _ _ _ h => h, fun _ _ _ _ h => h, fun _ _ _ _ h => h, fun _ _ _ _ h => h, trivial⟩ (odHA rfl) (od rfl) e_66 fun w hS hM => ?_
    have hS : St _ F0 [Item.tab (α := Int) 27 3 u_5 o_6 rs_7 z_65] _ w0 _ _ := hS
    have hC := Mem.le_trans hC hM
    refine s_next hC ?_
    refine s_done ?_
    refine exit_block ?_
    refine et ?_
    refine st_reg mixed (by kernel_rfl) hS ?_
    refine mv rfl ?_
    refine cg (sp_add (od rfl) (odi)) ?_
    refine cg (sp_assign (od rfl)) ?_
    refine sn fun a w hS => ?_
    cases h
    exact ⟨_, hN_38 _ rfl, hS.weak ⟨od rfl, od rfl, od rfl, od rfl, trivial⟩⟩
  have h := ite_f hb h
  refine wp_exit ?_
  refine exit_thenE ?_
  cases h
  obtain rfl := hL_38 _ rfl
  have h := hr_40
  refine exit_thenE ?_
  refine exit_here ?_
  refine et ?_
  refine ws ?_
  refine ws ?_
  refine st_reg mixed (by kernel_rfl) hS ?_
  refine cg (sp_assign (odi)) ?_
  refine sn fun a w hS => ?_
  refine et ?_
  refine wp_block ?_
  obtain ⟨o_68, e_69, hr_70⟩ := bind_some h
  refine c_loop (fun K a w => ∃ s_67 : Int × (List (List Int)), loopM _ K s_67 = some o_68 ∧ St 135 F0 [Item.tab (α := Int) 27 3 u_5 o_6 rs_7 s_67.2] [(0, isV (α := Int) p0), (5, Pr.is u_5), (13, isV (α := Int) s_67.1)] w0 a w) ?_ ?_ ⟨_, e_69, hS.weak ⟨od rfl, od rfl, od rfl, trivial⟩⟩
  · rintro a w ⟨_, hk, _⟩; cases hk
  rintro K a w ⟨s_67, hF_68, hS⟩
  obtain ⟨o, h, hN_68, hL_68⟩ := loop_more hF_68
  refine ws ?_
  refine ws ?_
  refine st_reg mixed (by kernel_rfl) hS ?_
  refine mv rfl ?_
  refine mv rfl ?_
  refine cg (sp_lss (od rfl) (od rfl)) ?_
  refine sn fun a w hS => ?_
  refine et ?_
  refine st_cond hS rfl (fun hb => ?_) (fun hb => ?_)
  · have h := ite_t hb h
    refine wp_skip ?_
    refine et ?_
    refine ws ?_
    refine wp_block ?_
    refine ws ?_
    refine st_reg mixed (by kernel_rfl) hS ?_
    refine cg (sp_assign (odi)) ?_
    refine sn fun a w hS => ?_
    refine et ?_
    refine wp_block ?_
    obtain ⟨o_72, e_73, hr_74⟩ := bind_some h
    refine c_loop (fun K a w => ∃ s_71 : Int × (List (List Int)), loopM _ K s_71 = some o_72 ∧ St 135 F0 [Item.tab (α := Int) 27 3 u_5 o_6 rs_7 s_71.2] [(0, isV (α := Int) p0), (5, Pr.is u_5), (13, isV (α := Int) s_67.1), (14, isV (α := Int) s_71.1)] w0 a w) ?_ ?_ ⟨_, e_73, hS.weak ⟨od rfl, od rfl, od rfl, od rfl, trivial⟩⟩
    · rintro a w ⟨_, hk, _⟩; cases hk
    rintro K a w ⟨s_71, hF_72, hS⟩
    obtain ⟨o, h, hN_72, hL_72⟩ := loop_more hF_72
    refine ws ?_
    refine ws ?_
    refine st_reg mixed (by kernel_rfl) hS ?_
    refine mv rfl ?_
    refine mv rfl ?_
    refine cg (sp_lss (od rfl) (od rfl)) ?_
    refine sn fun a w hS => ?_
    refine et ?_
    refine st_cond hS rfl (fun hb => ?_) (fun hb => ?_)
    · have h := ite_t hb h
      refine wp_skip ?_
      refine et ?_
      refine ws ?_
      refine wp_block ?_
      refine ws ?_
      refine st_reg mixed (by kernel_rfl) hS ?_
      refine cg (sp_assign (odi)) ?_
      refine sn fun a w hS => ?_
      refine et ?_
      refine wp_block ?_
      obtain ⟨o_76, e_77, hr_78⟩ := bind_some h
      refine c_loop (fun K a w => ∃ s_75 : Int × (List (List Int)), loopM _ K s_75 = some o_76 ∧ St 135 F0 [Item.tab (α := Int) 27 3 u_5 o_6 rs_7 s_75.2] [(0, isV (α := Int) p0), (5, Pr.is u_5), (13, isV (α := Int) s_67.1), (14, isV (α := Int) s_71.1), (15, isV (α := Int) s_75.1)] w0 a w) ?_ ?_ ⟨_, e_77, hS.weak ⟨od rfl, od rfl, od rfl, od rfl, od rfl, trivial⟩⟩
      · rintro a w ⟨_, hk, _⟩; cases hk
      rintro K a w ⟨s_75, hF_76, hS⟩
      obtain ⟨o, h, hN_76, hL_76⟩ := loop_more hF_76
      refine ws ?_
      refine ws ?_
      refine st_reg mixed (by kernel_rfl) hS ?_
      refine mv rfl ?_
      refine mv rfl ?_
      refine cg (sp_lss (od rfl) (od rfl)) ?_
      refine sn fun a w hS => ?_
      refine et ?_
      refine st_cond hS rfl (fun hb => ?_) (fun hb => ?_)
      · have h := ite_t hb h
        refine wp_skip ?_
        refine et ?_
        refine ws ?_
        refine wp_block ?_
        have hS := st_tab 0 5 hS rfl rfl
        obtain ⟨v_79, e_80, h⟩ := bind_some h
        obtain ⟨v_81, e_82, h⟩ := bind_some h
        obtain ⟨v_83, e_84, h⟩ := bind_some h
        obtain ⟨v_85, e_86, h⟩ := bind_some h
        obtain ⟨v_87, e_88, h⟩ := bind_some h
        obtain ⟨v_89, e_90, h⟩ := bind_some h
        obtain ⟨v_91, e_92, h⟩ := bind_some h
        obtain ⟨v_93, e_94, h⟩ := bind_some h
        obtain ⟨z_95, e_96, h⟩ := bind_some h
        refine st_float mixed [0, 0, 0, 0, 0, 0, 0, 0, 0, 0, 0, 0, 0, 0, 0, 0, 0, 0, 0, 0, 0, 0, 0, 0, 0, 0, 0, 0, 0, 2] (by kernel_rfl) (by kernel_rfl) hS ?_
        refine sfA (sg (sp_move (od rfl))) ?_
        refine sfA (sg (sp_move (od rfl))) ?_
        refine sfA (sg (sp_indexAddrT Try.underlying75 sz27 (od rfl) (od rfl) e_80)) ?_
        refine sfA (sg (sp_loadTR Try.underlying27 (od rfl))) ?_
        refine sfA (sg (sp_move (od rfl))) ?_
        refine sfA (sg (sp_move (od rfl))) ?_
        refine sfA (sg (sp_move (od rfl))) ?_
        refine sfA (sg (sp_indexAddrT Try.underlying75 sz27 (od rfl) (od rfl) e_82)) ?_
        refine sfA (sg (sp_loadTR Try.underlying27 (od rfl))) ?_
        refine sfA (sg (sp_move (od rfl))) ?_
        refine sfA (sg (sp_indexAddrTA sl27 (od rfl) (od rfl) e_84)) ?_
        refine sfA (sg (sp_loadTA ty3 (od rfl))) ?_
        refine sfA (sg (sp_move (od rfl))) ?_
        refine sfA (sg (sp_move (od rfl))) ?_
        refine sfA (sg (sp_indexAddrT Try.underlying75 sz27 (od rfl) (od rfl) e_86)) ?_
        refine sfA (sg (sp_loadTR Try.underlying27 (od rfl))) ?_
        refine sfA (sg (sp_move (od rfl))) ?_
        refine sfA (sg (sp_indexAddrTA sl27 (od rfl) (od rfl) e_88)) ?_
        refine sfA (sg (sp_loadTA ty3 (od rfl))) ?_
        refine sfA (sg (sp_move (od rfl))) ?_
        refine sfA (sg (sp_move (od rfl))) ?_
        refine sfA (sg (sp_indexAddrT Try.underlying75 sz27 (od rfl) (od rfl) e_90)) ?_
        refine sfA (sg (sp_loadTR Try.underlying27 (od rfl))) ?_
        refine sfA (sg (sp_move (od rfl))) ?_
        refine sfA (sg (sp_indexAddrTA sl27 (od rfl) (od rfl) e_92)) ?_
        refine sfA (sg (sp_loadTA ty3 (od rfl))) ?_
        refine sfA (sg (sp_add (od rfl) (od rfl))) ?_
        refine sfA (sg (sp_min (od rfl) (od rfl))) ?_
        refine sfA (sg (sp_indexAddrTA sl27 (od rfl) (od rfl) e_94)) ?_
        refine sfT ?_
        refine sfN fun c a w hS hC => ?_
        refine ls ?_
        refine s_storeTA (k := 0) (i := s_71.1) (j := s_75.1) (Δ := [(0, isV (α := Int) p0), (5, Pr.is u_5), (13, isV (α := Int) s_67.1), (14, isV (α := Int) s_71.1), (15, isV (α := Int) s_75.1), (132, isV (α := Int) (imin v_83 (wr (v_87 + v_91)))), (133, isHA Int rs_7 s_71.1.toNat s_75.1.toNat)]) ty3 hS rfl ⟨od rfl, odTab rfl, od rfl, od rfl, od rfl, od rfl, odHA rfl, trivial⟩ ⟨fun _ _ _ _ h => h, fun _ _ _ _ h => h, fun _ _ _ _ h => h, fun _ _ _ _ h => h, fun _ _ _ _ h => h, fun _ _ _ _ h => h, fun _ _ _ _ h => h, trivial⟩ (odHA rfl) (od rfl) e_96 fun w hS hM => ?_
        have hS : St _ F0 [Item.tab (α := Int) 27 3 u_5 o_6 rs_7 z_95] _ w0 _ _ := hS
        have hC := Mem.le_trans hC hM
        refine s_next hC ?_
        refine s_done ?_
        refine exit_block ?_
        refine et ?_
        refine st_reg mixed (by kernel_rfl) hS ?_
        refine mv rfl ?_
        refine cg (sp_add (od rfl) (odi)) ?_
        refine cg (sp_assign (od rfl)) ?_
        refine sn fun a w hS => ?_
        cases h
        exact ⟨_, hN_76 _ rfl, hS.weak ⟨od rfl, od rfl, od rfl, od rfl, od rfl, trivial⟩⟩
      have h := ite_f hb h
      refine wp_exit ?_
      refine exit_thenE ?_
      cases h
      obtain rfl := hL_76 _ rfl
      have h := hr_78
      refine exit_thenE ?_
      refine exit_here ?_
      refine exit_block ?_
      refine et ?_
      refine st_reg mixed (by kernel_rfl) hS ?_
      refine mv rfl ?_
      refine cg (sp_add (od rfl) (odi)) ?_
      refine cg (sp_assign (od rfl)) ?_
      refine sn fun a w hS => ?_
      cases h
      exact ⟨_, hN_72 _ rfl, hS.weak ⟨od rfl, od rfl, od rfl, od rfl, trivial⟩⟩
    have h := ite_f hb h
    refine wp_exit ?_
    refine exit_thenE ?_
    cases h
    obtain rfl := hL_72 _ rfl
    have h := hr_74
    refine exit_thenE ?_
    refine exit_here ?_
    refine exit_block ?_
    refine et ?_
    refine st_reg mixed (by kernel_rfl) hS ?_
    refine mv rfl ?_
    refine cg (sp_add (od rfl) (odi)) ?_
    refine cg (sp_assign (od rfl)) ?_
    refine sn fun a w hS => ?_
    cases h
    exact ⟨_, hN_68 _ rfl, hS.weak ⟨od rfl, od rfl, od rfl, trivial⟩⟩
  have h := ite_f hb h
  refine wp_exit ?_
  refine exit_thenE ?_
  cases h
  obtain rfl := hL_68 _ rfl
  have h := hr_70
  refine exit_thenE ?_
  refine exit_here ?_
  refine et ?_
  refine ws ?_
  refine st_reg mixed (by kernel_rfl) hS ?_
  refine mv rfl ?_
  refine cg (sp_assign (od rfl)) ?_
  refine sn fun a w hS => ?_
  refine et ?_
  refine wp_ret ?_
  cases h
  exact st_retI 0 (o_6, rs_7) hS ((run_results1 Try.results101 a w).trans (congrArg (fun v => Result.ok v w) (hS.get (t := 4) rfl))) rfl

theorem f73_ok {fuel : Nat} {p0 : S_api_Market} {p1 : List Int} {p2 : Int} {p3 : Int} {p4 : Int} {r : Bool} (h : M.f73 fuel p0 p1 p2 p3 p4 = some r) : CallOK Try.prog 73 [isV p0, isV p1, isV p2, isV p3, isV p4] (isV r) := by
  unfold M.f73 at h
  refine callS_of Try.func73 rfl Try.ntmps73 rfl fun F0 w0 a hS => ?_
  refine ws ?_
  refine st_reg mixed (by kernel_rfl) hS ?_
  refine cg (sp_box (od rfl)) ?_
  refine cg (sp_assign (odb)) ?_
  refine sn fun a w hS => ?_
  refine et ?_
  refine ws ?_
  obtain ⟨v_1, e_2, h⟩ := bind_some h
  obtain ⟨v_3, e_4, h⟩ := bind_some h
  refine st_reg mixed (by kernel_rfl) hS ?_
  refine cg (sp_fieldAddr fd24_0 (od rfl)) ?_
  refine cg (sp_load ty3 (od rfl)) ?_
  refine cg (sp_load ty24 (od rfl)) ?_
  refine mv rfl ?_
  refine cg (sp_call en102 (f102_ok e_2) ⟨od rfl, od rfl, trivial⟩) ?_
  refine cg (sp_call en101 (callOK_tab (f101_ok e_4)) ⟨od rfl, od rfl, trivial⟩) ?_
  refine cg (sp_assign (od rfl)) ?_
  refine sn fun a w hS => ?_
  refine et ?_
  refine ws ?_
  refine ws ?_
  refine st_reg mixed (by kernel_rfl) hS ?_
  refine mv rfl ?_
  refine cg (sp_neq (od rfl) (odi)) ?_
  refine sn fun a w hS => ?_
  refine et ?_
  refine st_cond hS rfl (fun hb => ?_) (fun hb => ?_)
  · have h := ite_t hb h
    refine ws ?_
    obtain ⟨v_5, e_6, h⟩ := bind_some h
    obtain ⟨v_7, e_8, h⟩ := bind_some h
    obtain ⟨v_9, e_10, h⟩ := bind_some h
    obtain ⟨v_11, e_12, h⟩ := bind_some h
    refine st_reg mixed (by kernel_rfl) hS ?_
    refine mv rfl ?_
    refine mv rfl ?_
    refine cg (sp_indexAddr sl75 (od rfl) (od rfl) e_6) ?_
    refine cg (sp_load ty27 (od rfl)) ?_
    refine mv rfl ?_
    refine cg (sp_indexAddr sl27 (od rfl) (od rfl) e_8) ?_
    refine cg (sp_load ty3 (od rfl)) ?_
    refine mv rfl ?_
    refine cg (sp_leq (od rfl) (od rfl)) ?_
    refine mv rfl ?_
    refine sc (sgT rfl fun hG => sp_move (od rfl)) ?_
    refine sc (sgT rfl fun hG => sp_move (od rfl)) ?_
    refine sc (sgT rfl fun hG => sp_indexAddr sl75 (odw rfl hG) (odw rfl hG) (guard_some e_10 hG)) ?_
    refine sc (sgT rfl fun hG => sp_load ty27 (odw rfl hG)) ?_
    refine sc (sgT rfl fun hG => sp_move (od rfl)) ?_
    refine sc (sgT rfl fun hG => sp_indexAddr sl27 (odw rfl hG) (odw rfl hG) (guard_some e_12 hG)) ?_
    refine sc (sgT rfl fun hG => sp_load ty3 (odw rfl hG)) ?_
    refine sc (sgT rfl fun hG => sp_lss (odw rfl hG) (odi)) ?_
    refine cg (sp_pickAnd (od rfl) fun hg => odw rfl hg) ?_
    refine cg (sp_assign (od rfl)) ?_
    refine sn fun a w hS => ?_
    refine et ?_
    refine wp_ret ?_
    refine exit_thenR ?_
    cases h
    exact st_ret hS (run_results1 Try.results73 a w) (hS.get rfl)
  have h := ite_f hb h
  refine wp_skip ?_
  refine et ?_
  refine ws ?_
  refine ws ?_
  refine st_reg mixed (by kernel_rfl) hS ?_
  refine cg (sp_assign (odi)) ?_
  refine sn fun a w hS => ?_
  refine et ?_
  refine wp_block ?_
  obtain ⟨o_14, e_15, hr_16⟩ := bind_some h
  refine c_loop (fun K a w => ∃ s_13 : Int, loopM _ K s_13 = some o_14 ∧ St 72 F0 [] [(4, isV (α := Int) p4), (5, isA (α := S_api_Market) p0), (11, isV (α := List (List Int)) v_3), (12, isV (α := Int) s_13)] w0 a w) ?_ ?_ ⟨_, e_15, hS.weak ⟨od rfl, od rfl, od rfl, od rfl, trivial⟩⟩
  · rintro a w ⟨_, hk, _⟩; cases hk
  rintro K a w ⟨s_13, hF_14, hS⟩
  obtain ⟨o, h, hN_14, hL_14⟩ := loop_more hF_14
  refine ws ?_
  refine ws ?_
  refine st_reg mixed (by kernel_rfl) hS ?_
  refine mv rfl ?_
  refine cg (sp_fieldAddr fd24_0 (od rfl)) ?_
  refine cg (sp_load ty3 (od rfl)) ?_
  refine cg (sp_lss (od rfl) (od rfl)) ?_
  refine sn fun a w hS => ?_
  refine et ?_
  refine st_cond hS rfl (fun hb => ?_) (fun hb => ?_)
  · have h := ite_t hb h
    refine wp_skip ?_
    refine et ?_
    refine ws ?_
    refine wp_block ?_
    refine ws ?_
    refine st_reg mixed (by kernel_rfl) hS ?_
    refine cg (sp_assign (odi)) ?_
    refine sn fun a w hS => ?_
    refine et ?_
    refine wp_block ?_
    obtain ⟨o_18, e_19, hr_20⟩ := bind_some h
    refine c_loop (fun K a w => ∃ s_17 : Int, loopM _ K s_17 = some o_18 ∧ St 72 F0 [] [(4, isV (α := Int) p4), (5, isA (α := S_api_Market) p0), (11, isV (α := List (List Int)) v_3), (12, isV (α := Int) s_13), (13, isV (α := Int) s_17)] w0 a w) ?_ ?_ ⟨_, e_19, hS.weak ⟨od rfl, od rfl, od rfl, od rfl, od rfl, trivial⟩⟩
    · rintro a w ⟨_, hk, _⟩; cases hk
    rintro K a w ⟨s_17, hF_18, hS⟩
    obtain ⟨o, h, hN_18, hL_18⟩ := loop_more hF_18
    refine ws ?_
    refine ws ?_
    refine st_reg mixed (by kernel_rfl) hS ?_
    refine mv rfl ?_
    refine cg (sp_fieldAddr fd24_0 (od rfl)) ?_
    refine cg (sp_load ty3 (od rfl)) ?_
    refine cg (sp_lss (od rfl) (od rfl)) ?_
    refine sn fun a w hS => ?_
    refine et ?_
    refine st_cond hS rfl (fun hb => ?_) (fun hb => ?_)
    · have h := ite_t hb h
      refine wp_skip ?_
      refine et ?_
      refine ws ?_
      refine wp_block ?_
      refine ws ?_
      obtain ⟨v_21, e_22, h⟩ := bind_some h
      obtain ⟨v_23, e_24, h⟩ := bind_some h
      obtain ⟨v_25, e_26, h⟩ := bind_some h
      obtain ⟨v_27, e_28, h⟩ := bind_some h
      refine st_reg mixed (by kernel_rfl) hS ?_
      refine mv rfl ?_
      refine mv rfl ?_
      refine cg (sp_indexAddr sl75 (od rfl) (od rfl) e_22) ?_
      refine cg (sp_load ty27 (od rfl)) ?_
      refine mv rfl ?_
      refine cg (sp_indexAddr sl27 (od rfl) (od rfl) e_24) ?_
      refine cg (sp_load ty3 (od rfl)) ?_
      refine mv rfl ?_
      refine cg (sp_gtr (od rfl) (od rfl)) ?_
      refine mv rfl ?_
      refine sc (sgF rfl fun hG => sp_move (od rfl)) ?_
      refine sc (sgF rfl fun hG => sp_move (od rfl)) ?_
      refine sc (sgF rfl fun hG => sp_indexAddr sl75 (odw rfl hG) (odw rfl hG) (guard_some e_26 hG)) ?_
      refine sc (sgF rfl fun hG => sp_load ty27 (odw rfl hG)) ?_
      refine sc (sgF rfl fun hG => sp_move (od rfl)) ?_
      refine sc (sgF rfl fun hG => sp_indexAddr sl27 (odw rfl hG) (odw rfl hG) (guard_some e_28 hG)) ?_
      refine sc (sgF rfl fun hG => sp_load ty3 (odw rfl hG)) ?_
      refine sc (sgF rfl fun hG => sp_geq (odw rfl hG) (odi)) ?_
      refine cg (sp_pickOr (od rfl) fun hg => odw rfl (not_t hg)) ?_
      refine sn fun a w hS => ?_
      refine et ?_
      refine st_cond hS rfl (fun hb => ?_) (fun hb => ?_)
      · have h := ite_t hb h
        refine ws ?_
        refine st_reg mixed (by kernel_rfl) hS ?_
        refine cg (sp_assign (odb)) ?_
        refine sn fun a w hS => ?_
        refine et ?_
        refine wp_ret ?_
        refine exit_blockR ?_
        refine exit_thenR ?_
        cases h
        obtain rfl := hL_18 _ rfl
        have h := (sum_inr hr_20)
        refine exit_thenR ?_
        refine exit_blockR ?_
        refine exit_blockR ?_
        refine exit_thenR ?_
        cases h
        obtain rfl := hL_14 _ rfl
        have h := (sum_inr hr_16)
        refine exit_thenR ?_
        refine exit_blockR ?_
        refine exit_thenR ?_
        cases h
        exact st_ret hS (run_results1 Try.results73 a w) (hS.get rfl)
      have h := ite_f hb h
      refine wp_skip ?_
      refine exit_block ?_
      refine et ?_
      refine st_reg mixed (by kernel_rfl) hS ?_
      refine mv rfl ?_
      refine cg (sp_add (od rfl) (odi)) ?_
      refine cg (sp_assign (od rfl)) ?_
      refine sn fun a w hS => ?_
      cases h
      exact ⟨_, hN_18 _ rfl, hS.weak ⟨od rfl, od rfl, od rfl, od rfl, od rfl, trivial⟩⟩
    have h := ite_f hb h
    refine wp_exit ?_
    refine exit_thenE ?_
    cases h
    obtain rfl := hL_18 _ rfl
    have h := (sum_inl hr_20)
    refine exit_thenE ?_
    refine exit_here ?_
    refine exit_block ?_
    refine et ?_
    refine st_reg mixed (by kernel_rfl) hS ?_
    refine mv rfl ?_
    refine cg (sp_add (od rfl) (odi)) ?_
    refine cg (sp_assign (od rfl)) ?_
    refine sn fun a w hS => ?_
    cases h
    exact ⟨_, hN_14 _ rfl, hS.weak ⟨od rfl, od rfl, od rfl, od rfl, trivial⟩⟩
  have h := ite_f hb h
  refine wp_exit ?_
  refine exit_thenE ?_
  cases h
  obtain rfl := hL_14 _ rfl
  have h := (sum_inl hr_16)
  refine exit_thenE ?_
  refine exit_here ?_
  refine et ?_
  refine ws ?_
  refine st_reg mixed (by kernel_rfl) hS ?_
  refine cg (sp_assign (odb)) ?_
  refine sn fun a w hS => ?_
  refine et ?_
  refine wp_ret ?_
  cases h
  exact st_ret hS (run_results1 Try.results73 a w) (hS.get rfl)

theorem f19_ok {fuel : Nat} {p0 : S_api_Market} {p1 : Int} {p2 : Int} {p3 : Int} {r : (List Int) × Int} (h : M.f19 fuel p0 p1 p2 p3 = some r) : CallOK Try.prog 19 [isV p0, isV p1, isV p2, isV p3] (isTup [isV r.1, isV r.2]) := by
  unfold M.f19 at h
  refine callS_of Try.func19 rfl Try.ntmps19 rfl fun F0 w0 a hS => ?_
  refine ws ?_
  refine st_reg mixed (by kernel_rfl) hS ?_
  refine cg (sp_box (od rfl)) ?_
  refine cg (sp_assign (odnil (α := Int))) ?_
  refine cg (sp_assign (odi)) ?_
  refine sn fun a w hS => ?_
  refine et ?_
  refine ws ?_
  refine ws ?_
  obtain ⟨v_1, e_2, h⟩ := bind_some h
  refine st_reg mixed (by kernel_rfl) hS ?_
  refine cg (sp_load ty24 (od rfl)) ?_
  refine mv rfl ?_
  refine mv rfl ?_
  refine mv rfl ?_
  refine cg (sp_buildSlice [.tmp 15, .tmp 16] ([p1, p2] : List Int) sl27 ze3 rfl rfl rfl rfl ⟨od rfl, od rfl, trivial⟩) ?_
  refine cg (sp_call en72 (f72_ok e_2) ⟨od rfl, odnil (α := Int), od rfl, od rfl, trivial⟩) ?_
  refine cg (sp_assign (od rfl)) ?_
  refine sn fun a w hS => ?_
  refine et ?_
  refine ws ?_
  refine st_reg mixed (by kernel_rfl) hS ?_
  refine mv rfl ?_
  refine cg (sp_neq (od rfl) (odi)) ?_
  refine sn fun a w hS => ?_
  refine et ?_
  refine st_cond hS rfl (fun hb => ?_) (fun hb => ?_)
  · have h := ite_t hb h
    refine ws ?_
    refine st_reg mixed (by kernel_rfl) hS ?_
    refine mv rfl ?_
    refine cg (sp_assign (odnil (α := Int))) ?_
    refine cg (sp_assign (od rfl)) ?_
    refine sn fun a w hS => ?_
    refine et ?_
    refine wp_ret ?_
    refine exit_thenR ?_
    cases h
    exact st_ret hS (run_results2 Try.results19 a w) (⟨_, rfl, hS.get rfl, hS.get rfl, trivial⟩)
  have h := ite_f hb h
  refine wp_skip ?_
  refine et ?_
  refine ws ?_
  refine ws ?_
  obtain ⟨v_3, e_4, h⟩ := bind_some h
  obtain ⟨v_5, e_6, h⟩ := bind_some h
  obtain ⟨v_7, e_8, h⟩ := bind_some h
  refine st_reg mixed (by kernel_rfl) hS ?_
  refine cg (sp_load ty24 (od rfl)) ?_
  refine cg (sp_load ty24 (od rfl)) ?_
  refine cg (sp_load ty24 (od rfl)) ?_
  refine cg (sp_call en75 (f75_ok e_4) ⟨od rfl, trivial⟩) ?_
  refine cg (sp_call en74 (f74_ok e_6) ⟨od rfl, od rfl, trivial⟩) ?_
  refine mv rfl ?_
  refine mv rfl ?_
  refine mv rfl ?_
  refine cg (sp_call en73 (f73_ok e_8) ⟨od rfl, od rfl, od rfl, od rfl, od rfl, trivial⟩) ?_
  refine cg (sp_not (od rfl)) ?_
  refine sn fun a w hS => ?_
  refine et ?_
  refine st_cond hS rfl (fun hb => ?_) (fun hb => ?_)
  · have h := ite_t hb h
    refine ws ?_
    refine st_reg mixed (by kernel_rfl) hS ?_
    refine cg (sp_assign (odnil (α := Int))) ?_
    refine cg (sp_assign (odi)) ?_
    refine sn fun a w hS => ?_
    refine et ?_
    refine wp_ret ?_
    refine exit_thenR ?_
    cases h
    exact st_ret hS (run_results2 Try.results19 a w) (⟨_, rfl, hS.get rfl, hS.get rfl, trivial⟩)
  have h := ite_f hb h
  refine wp_skip ?_
  refine et ?_
  refine ws ?_
  refine st_reg mixed (by kernel_rfl) hS ?_
  refine cg (sp_assign (φ := Pr.is (.slice none 0 0)) (odc fun _ => rfl)) ?_
  refine sn fun a w hS => ?_
  have hS := st_nil (α := Int) 3 hS
  have hS : St _ F0 [Item.sl (α := Int) 3 (.slice none 0 0) ([] : List Int)] _ w0 _ _ := hS
  refine et ?_
  refine ws ?_
  refine ws ?_
  refine st_reg mixed (by kernel_rfl) hS ?_
  refine cg (sp_assign (odi)) ?_
  refine sn fun a w hS => ?_
  refine et ?_
  refine wp_block ?_
  obtain ⟨o_10, e_11, hr_12⟩ := bind_some h
  refine c_loop (fun K a w => ∃ s_9 : Int × (List Int), ∃ u_13 : Value, loopM _ K s_9 = some o_10 ∧ St 57 F0 [Item.sl (α := Int) 3 u_13 s_9.2] [(1, isV (α := Int) p1), (2, isV (α := Int) p2), (3, isV (α := Int) p3), (4, isA (α := S_api_Market) p0), (11, Pr.is u_13), (12, isV (α := Int) s_9.1)] w0 a w) ?_ ?_ ⟨_, (.slice none 0 0), e_11, hS.weak ⟨od rfl, od rfl, od rfl, od rfl, od rfl, od rfl, trivial⟩⟩
  · rintro a w ⟨_, _, hk, _⟩; cases hk
  rintro K a w ⟨s_9, u_13, hF_10, hS⟩
  obtain ⟨o, h, hN_10, hL_10⟩ := loop_more hF_10
  refine ws ?_
  refine ws ?_
  refine st_reg mixed (by kernel_rfl) hS ?_
  refine mv rfl ?_
  refine cg (sp_fieldAddr fd24_2 (od rfl)) ?_
  refine cg (sp_load ty22 (od rfl)) ?_
  refine cg (sp_len Try.underlying22 (od rfl)) ?_
  refine cg (sp_lss (od rfl) (od rfl)) ?_
  refine sn fun a w hS => ?_
  refine et ?_
  refine st_cond hS rfl (fun hb => ?_) (fun hb => ?_)
  · have h := ite_t hb h
    refine wp_skip ?_
    refine et ?_
    refine ws ?_
    refine wp_block ?_
    refine ws ?_
    obtain ⟨v_14, e_15, h⟩ := bind_some h
    obtain ⟨v_16, e_17, h⟩ := bind_some h
    obtain ⟨v_18, e_19, h⟩ := bind_some h
    obtain ⟨v_20, e_21, h⟩ := bind_some h
    refine st_reg mixed (by kernel_rfl) hS ?_
    refine cg (sp_load ty24 (od rfl)) ?_
    refine cg (sp_load ty24 (od rfl)) ?_
    refine cg (sp_load ty24 (od rfl)) ?_
    refine cg (sp_call en75 (f75_ok e_15) ⟨od rfl, trivial⟩) ?_
    refine mv rfl ?_
    refine cg (sp_shl (odi) (od rfl) e_17) ?_
    refine cg (sp_andNot (od rfl) (od rfl)) ?_
    refine cg (sp_call en74 (f74_ok e_19) ⟨od rfl, od rfl, trivial⟩) ?_
    refine mv rfl ?_
    refine mv rfl ?_
    refine mv rfl ?_
    refine cg (sp_call en73 (f73_ok e_21) ⟨od rfl, od rfl, od rfl, od rfl, od rfl, trivial⟩) ?_
    refine cg (sp_not (od rfl)) ?_
    refine sn fun a w hS => ?_
    refine et ?_
    obtain ⟨y_23, hj_22, h⟩ := bind_some h
    refine wp_mono (Q := fun e a w => e = Exit.normal ∧ ∃ u_24 : Value, St 57 F0 [Item.sl (α := Int) 3 u_24 y_23] [(1, isV (α := Int) p1), (2, isV (α := Int) p2), (3, isV (α := Int) p3), (4, isA (α := S_api_Market) p0), (11, Pr.is u_24), (12, isV (α := Int) s_9.1)] w0 a w) ?_ ?_
    · refine st_cond hS rfl (fun hb => ?_) (fun hb => ?_)
      · have h := ite_t hb hj_22
        obtain ⟨z_25, e_26, h⟩ := bind_some h
        refine l_start ?_
        refine s_c hS (sg (sp_move (od rfl))) rfl fun a w hS hM => ?_
        refine s_c hS (sg (sp_move (od rfl))) rfl fun a w hS hM => ?_
        refine s_c hS (sg (sp_buildSlice [.tmp 53] ([s_9.1] : List Int) sl27 ze3 rfl rfl rfl rfl ⟨od rfl, trivial⟩)) rfl fun a w hS hM => ?_
        refine s_append (k := 0) (Δ := [(1, isV (α := Int) p1), (2, isV (α := Int) p2), (3, isV (α := Int) p3), (4, isA (α := S_api_Market) p0), (12, isV (α := Int) s_9.1), (52, Pr.is u_13), (54, isV (α := List Int) ([s_9.1] : List Int))]) sl27 ze3 hS rfl ⟨od rfl, od rfl, od rfl, od rfl, od rfl, od rfl, od rfl, trivial⟩ ⟨fun _ _ _ _ h => h, fun _ _ _ _ h => h, fun _ _ _ _ h => h, fun _ _ _ _ h => h, fun _ _ _ _ h => h, fun _ _ _ _ h => h, fun _ _ _ _ h => h, trivial⟩ (od rfl) (od rfl) e_26 rfl fun a w u_27 hS hM => ?_
        have hS : St _ F0 [Item.sl (α := Int) 3 u_27 z_25] _ w0 _ _ := hS
        refine s_c hS (sg (sp_assign (od rfl))) rfl fun a w hS hM => ?_
        refine l_end ?_
        cases h
        exact ⟨rfl, u_27, hS.weak ⟨od rfl, od rfl, od rfl, od rfl, od rfl, od rfl, trivial⟩⟩
      have h := ite_f hb hj_22
      refine wp_skip ?_
      cases h
      exact ⟨rfl, u_13, hS.weak ⟨od rfl, od rfl, od rfl, od rfl, od rfl, od rfl, trivial⟩⟩
    rintro e a w ⟨rfl, u_24, hS⟩
    refine exit_block ?_
    refine et ?_
    refine st_reg mixed (by kernel_rfl) hS ?_
    refine mv rfl ?_
    refine cg (sp_add (od rfl) (odi)) ?_
    refine cg (sp_assign (od rfl)) ?_
    refine sn fun a w hS => ?_
    cases h
    exact ⟨_, u_24, hN_10 _ rfl, hS.weak ⟨od rfl, od rfl, od rfl, od rfl, od rfl, od rfl, trivial⟩⟩
  have h := ite_f hb h
  refine wp_exit ?_
  refine exit_thenE ?_
  cases h
  obtain rfl := hL_10 _ rfl
  have h := hr_12
  refine exit_thenE ?_
  refine exit_here ?_
  refine et ?_
  refine ws ?_
  refine st_reg mixed (by kernel_rfl) hS ?_
  refine mv rfl ?_
  refine cg (sp_assign (od rfl)) ?_
  refine cg (sp_assign (odi)) ?_
  refine sn fun a w hS => ?_
  refine et ?_
  refine wp_ret ?_
  have hS0 := hS
  have hS := st_freeze 0 8 hS rfl rfl
  have hS := st_also (t := 8) (q := 11) hS0 hS rfl rfl rfl
  have hS := st_also (t := 8) (q := 56) hS0 hS rfl rfl rfl
  cases h
  exact st_ret hS (run_results2 Try.results19 a w) (⟨_, rfl, hS.get rfl, hS.get rfl, trivial⟩)

theorem f81_ok {fuel : Nat} {p0 : S_api_Market} {p1 : List Int} {r : Int} (h : M.f81 fuel p0 p1 = some r) : CallOK Try.prog 81 [isV p0, isV p1] (isV r) := by
  unfold M.f81 at h
  refine callS_of Try.func81 rfl Try.ntmps81 rfl fun F0 w0 a hS => ?_
  refine ws ?_
  refine st_reg mixed (by kernel_rfl) hS ?_
  refine cg (sp_box (od rfl)) ?_
  refine cg (sp_assign (odi)) ?_
  refine sn fun a w hS => ?_
  refine et ?_
  refine ws ?_
  refine st_reg mixed (by kernel_rfl) hS ?_
  refine cg (sp_assign (odi)) ?_
  refine sn fun a w hS => ?_
  refine et ?_
  refine ws ?_
  refine ws ?_
  refine st_reg mixed (by kernel_rfl) hS ?_
  refine cg (sp_assign (odi)) ?_
  refine sn fun a w hS => ?_
  refine et ?_
  refine wp_block ?_
  obtain ⟨o_2, e_3, hr_4⟩ := bind_some h
  refine c_loop (fun K a w => ∃ s_1 : Int × Int, loopM _ K s_1 = some o_2 ∧ St 25 F0 [] [(1, isV (α := List Int) p1), (2, isA (α := S_api_Market) p0), (5, isV (α := Int) s_1.1), (6, isV (α := Int) s_1.2)] w0 a w) ?_ ?_ ⟨_, e_3, hS.weak ⟨od rfl, od rfl, od rfl, od rfl, trivial⟩⟩
  · rintro a w ⟨_, hk, _⟩; cases hk
  rintro K a w ⟨s_1, hF_2, hS⟩
  obtain ⟨o, h, hN_2, hL_2⟩ := loop_more hF_2
  refine ws ?_
  refine ws ?_
  refine st_reg mixed (by kernel_rfl) hS ?_
  refine mv rfl ?_
  refine mv rfl ?_
  refine cg (sp_len Try.underlying27 (od rfl)) ?_
  refine cg (sp_lss (od rfl) (od rfl)) ?_
  refine sn fun a w hS => ?_
  refine et ?_
  refine st_cond hS rfl (fun hb => ?_) (fun hb => ?_)
  · have h := ite_t hb h
    refine wp_skip ?_
    refine et ?_
    refine ws ?_
    refine wp_block ?_
    obtain ⟨v_5, e_6, h⟩ := bind_some h
    obtain ⟨v_7, e_8, h⟩ := bind_some h
    refine st_reg mixed (by kernel_rfl) hS ?_
    refine mv rfl ?_
    refine cg (sp_fieldAddr fd24_2 (od rfl)) ?_
    refine cg (sp_load ty22 (od rfl)) ?_
    refine mv rfl ?_
    refine mv rfl ?_
    refine cg (sp_indexAddr sl27 (od rfl) (od rfl) e_6) ?_
    refine cg (sp_load ty3 (od rfl)) ?_
    refine cg (sp_indexAddr sl22 (od rfl) (od rfl) e_8) ?_
    refine cg (sp_fieldAddr fd59_2 (od rfl)) ?_
    refine cg (sp_load ty3 (od rfl)) ?_
    refine cg (sp_add (od rfl) (od rfl)) ?_
    refine cg (sp_assign (od rfl)) ?_
    refine sn fun a w hS => ?_
    refine exit_block ?_
    refine et ?_
    refine st_reg mixed (by kernel_rfl) hS ?_
    refine mv rfl ?_
    refine cg (sp_add (od rfl) (odi)) ?_
    refine cg (sp_assign (od rfl)) ?_
    refine sn fun a w hS => ?_
    cases h
    exact ⟨_, hN_2 _ rfl, hS.weak ⟨od rfl, od rfl, od rfl, od rfl, trivial⟩⟩
  have h := ite_f hb h
  refine wp_exit ?_
  refine exit_thenE ?_
  cases h
  obtain rfl := hL_2 _ rfl
  have h := hr_4
  refine exit_thenE ?_
  refine exit_here ?_
  refine et ?_
  refine ws ?_
  refine st_reg mixed (by kernel_rfl) hS ?_
  refine mv rfl ?_
  refine cg (sp_assign (od rfl)) ?_
  refine sn fun a w hS => ?_
  refine et ?_
  refine wp_ret ?_
  cases h
  exact st_ret hS (run_results1 Try.results81 a w) (hS.get rfl)

theorem f21_ok {fuel : Nat} {p0 : S_api_Market} {p1 : Int} {p2 : Int} {p3 : Int} {p4 : Int} {r : Int × Bool × Int} (h : M.f21 fuel p0 p1 p2 p3 p4 = some r) : CallOK Try.prog 21 [isV p0, isV p1, isV p2, isV p3, isV p4] (isTup [isV r.1, isV r.2.1, isV r.2.2]) := by
  unfold M.f21 at h
  refine callS_of Try.func21 rfl Try.ntmps21 rfl fun F0 w0 a hS => ?_
  refine ws ?_
  refine st_reg mixed (by kernel_rfl) hS ?_
  refine cg (sp_box (od rfl)) ?_
  refine cg (sp_assign (odi)) ?_
  refine cg (sp_assign (odb)) ?_
  refine cg (sp_assign (odi)) ?_
  refine sn fun a w hS => ?_
  refine et ?_
  refine ws ?_
  refine ws ?_
  obtain ⟨v_1, e_2, h⟩ := bind_some h
  refine st_reg mixed (by kernel_rfl) hS ?_
  refine cg (sp_load ty24 (od rfl)) ?_
  refine mv rfl ?_
  refine mv rfl ?_
  refine mv rfl ?_
  refine cg (sp_buildSlice [.tmp 20, .tmp 21] ([p1, p2] : List Int) sl27 ze3 rfl rfl rfl rfl ⟨od rfl, od rfl, trivial⟩) ?_
  refine cg (sp_call en72 (f72_ok e_2) ⟨od rfl, odnil (α := Int), od rfl, od rfl, trivial⟩) ?_
  refine cg (sp_assign (od rfl)) ?_
  refine sn fun a w hS => ?_
  refine et ?_
  refine ws ?_
  refine st_reg mixed (by kernel_rfl) hS ?_
  refine mv rfl ?_
  refine cg (sp_neq (od rfl) (odi)) ?_
  refine sn fun a w hS => ?_
  refine et ?_
  refine st_cond hS rfl (fun hb => ?_) (fun hb => ?_)
  · have h := ite_t hb h
    refine ws ?_
    refine st_reg mixed (by kernel_rfl) hS ?_
    refine mv rfl ?_
    refine cg (sp_assign (odi)) ?_
    refine cg (sp_assign (odb)) ?_
    refine cg (sp_assign (od rfl)) ?_
    refine sn fun a w hS => ?_
    refine et ?_
    refine wp_ret ?_
    refine exit_thenR ?_
    cases h
    exact st_ret hS (run_results3 Try.results21 a w) (⟨_, rfl, hS.get rfl, hS.get rfl, hS.get rfl, trivial⟩)
  have h := ite_f hb h
  refine wp_skip ?_
  refine et ?_
  refine ws ?_
  refine ws ?_
  obtain ⟨v_3, e_4, h⟩ := bind_some h
  refine st_reg mixed (by kernel_rfl) hS ?_
  refine mv rfl ?_
  refine cg (sp_fieldAddr fd24_2 (od rfl)) ?_
  refine cg (sp_load ty22 (od rfl)) ?_
  refine cg (sp_len Try.underlying22 (od rfl)) ?_
  refine cg (sp_sub (od rfl) (odi)) ?_
  refine cg (sp_call en80 (f80_ok e_4) ⟨od rfl, odi, od rfl, trivial⟩) ?_
  refine cg (sp_not (od rfl)) ?_
  refine sn fun a w hS => ?_
  refine et ?_
  refine st_cond hS rfl (fun hb => ?_) (fun hb => ?_)
  · have h := ite_t hb h
    refine ws ?_
    refine st_reg mixed (by kernel_rfl) hS ?_
    refine cg (sp_assign (odi)) ?_
    refine cg (sp_assign (odb)) ?_
    refine cg (sp_assign (odi)) ?_
    refine sn fun a w hS => ?_
    refine et ?_
    refine wp_ret ?_
    refine exit_thenR ?_
    cases h
    exact st_ret hS (run_results3 Try.results21 a w) (⟨_, rfl, hS.get rfl, hS.get rfl, hS.get rfl, trivial⟩)
  have h := ite_f hb h
  refine wp_skip ?_
  refine et ?_
  refine ws ?_
  refine ws ?_
  obtain ⟨v_5, e_6, h⟩ := bind_some h
  obtain ⟨v_7, e_8, h⟩ := bind_some h
  obtain ⟨v_9, e_10, h⟩ := bind_some h
  refine st_reg mixed (by kernel_rfl) hS ?_
  refine cg (sp_load ty24 (od rfl)) ?_
  refine cg (sp_load ty24 (od rfl)) ?_
  refine cg (sp_load ty24 (od rfl)) ?_
  refine cg (sp_call en75 (f75_ok e_6) ⟨od rfl, trivial⟩) ?_
  refine cg (sp_call en74 (f74_ok e_8) ⟨od rfl, od rfl, trivial⟩) ?_
  refine mv rfl ?_
  refine mv rfl ?_
  refine mv rfl ?_
  refine cg (sp_call en73 (f73_ok e_10) ⟨od rfl, od rfl, od rfl, od rfl, od rfl, trivial⟩) ?_
  refine cg (sp_not (od rfl)) ?_
  refine sn fun a w hS => ?_
  refine et ?_
  refine st_cond hS rfl (fun hb => ?_) (fun hb => ?_)
  · have h := ite_t hb h
    refine ws ?_
    refine st_reg mixed (by kernel_rfl) hS ?_
    refine cg (sp_assign (odi)) ?_
    refine cg (sp_assign (odb)) ?_
    refine cg (sp_assign (odi)) ?_
    refine sn fun a w hS => ?_
    refine et ?_
    refine wp_ret ?_
    refine exit_thenR ?_
    cases h
    exact st_ret hS (run_results3 Try.results21 a w) (⟨_, rfl, hS.get rfl, hS.get rfl, hS.get rfl, trivial⟩)
  have h := ite_f hb h
  refine wp_skip ?_
  refine et ?_
  refine ws ?_
  refine st_reg mixed (by kernel_rfl) hS ?_
  refine cg (sp_assign (odi)) ?_
  refine cg (sp_assign (odi)) ?_
  refine sn fun a w hS => ?_
  refine et ?_
  refine ws ?_
  refine ws ?_
  refine st_reg mixed (by kernel_rfl) hS ?_
  refine cg (sp_assign (odi)) ?_
  refine sn fun a w hS => ?_
  refine et ?_
  refine wp_block ?_
  obtain ⟨o_12, e_13, hr_14⟩ := bind_some h
  refine c_loop (fun K a w => ∃ s_11 : Int × Int × Int, loopM _ K s_11 = some o_12 ∧ St 82 F0 [] [(1, isV (α := Int) p1), (2, isV (α := Int) p2), (3, isV (α := Int) p3), (4, isV (α := Int) p4), (5, isA (α := S_api_Market) p0), (14, isV (α := Int) s_11.1), (15, isV (α := Int) s_11.2.1), (16, isV (α := Int) s_11.2.2)] w0 a w) ?_ ?_ ⟨_, e_13, hS.weak ⟨od rfl, od rfl, od rfl, od rfl, od rfl, od rfl, od rfl, od rfl, trivial⟩⟩
  · rintro a w ⟨_, hk, _⟩; cases hk
  rintro K a w ⟨s_11, hF_12, hS⟩
  obtain ⟨o, h, hN_12, hL_12⟩ := loop_more hF_12
  refine ws ?_
  refine ws ?_
  obtain ⟨v_15, e_16, h⟩ := bind_some h
  refine st_reg mixed (by kernel_rfl) hS ?_
  refine mv rfl ?_
  refine cg (sp_fieldAddr fd24_2 (od rfl)) ?_
  refine cg (sp_load ty22 (od rfl)) ?_
  refine cg (sp_len Try.underlying22 (od rfl)) ?_
  refine cg (sp_shl (odi) (od rfl) e_16) ?_
  refine cg (sp_lss (od rfl) (od rfl)) ?_
  refine sn fun a w hS => ?_
  refine et ?_
  refine st_cond hS rfl (fun hb => ?_) (fun hb => ?_)
  · have h := ite_t hb h
    refine wp_skip ?_
    refine et ?_
    refine ws ?_
    refine wp_block ?_
    refine ws ?_
    obtain ⟨v_17, e_18, h⟩ := bind_some h
    refine st_reg mixed (by kernel_rfl) hS ?_
    refine cg (sp_load ty24 (od rfl)) ?_
    refine mv rfl ?_
    refine cg (sp_call en74 (f74_ok e_18) ⟨od rfl, od rfl, trivial⟩) ?_
    refine cg (sp_assign (od rfl)) ?_
    refine sn fun a w hS => ?_
    refine et ?_
    refine ws ?_
    refine ws ?_
    obtain ⟨v_19, e_20, h⟩ := bind_some h
    refine st_reg mixed (by kernel_rfl) hS ?_
    refine cg (sp_load ty24 (od rfl)) ?_
    refine mv rfl ?_
    refine mv rfl ?_
    refine mv rfl ?_
    refine mv rfl ?_
    refine cg (sp_call en73 (f73_ok e_20) ⟨od rfl, od rfl, od rfl, od rfl, od rfl, trivial⟩) ?_
    refine cg (sp_not (od rfl)) ?_
    refine sn fun a w hS => ?_
    refine et ?_
    refine st_cond hS rfl (fun hb => ?_) (fun hb => ?_)
    · have h := ite_t hb h
      refine wp_exit ?_
      refine exit_thenE ?_
      refine exit_here ?_
      refine et ?_
      refine st_reg mixed (by kernel_rfl) hS ?_
      refine mv rfl ?_
      refine cg (sp_add (od rfl) (odi)) ?_
      refine cg (sp_assign (od rfl)) ?_
      refine sn fun a w hS => ?_
      cases h
      exact ⟨_, hN_12 _ rfl, hS.weak ⟨od rfl, od rfl, od rfl, od rfl, od rfl, od rfl, od rfl, od rfl, trivial⟩⟩
    have h := ite_f hb h
    refine wp_skip ?_
    refine et ?_
    refine ws ?_
    obtain ⟨v_21, e_22, h⟩ := bind_some h
    refine st_reg mixed (by kernel_rfl) hS ?_
    refine mv rfl ?_
    refine mv rfl ?_
    refine cg (sp_shr (od rfl) (od rfl) e_22) ?_
    refine cg (sp_and (od rfl) (odi)) ?_
    refine cg (sp_eql (od rfl) (odi)) ?_
    refine sn fun a w hS => ?_
    refine et ?_
    obtain ⟨⟨y_24, y_25⟩, hj_23, h⟩ := bind_some h
    refine wp_mono (Q := fun e a w => e = Exit.normal ∧ St 82 F0 [] [(1, isV (α := Int) p1), (2, isV (α := Int) p2), (3, isV (α := Int) p3), (4, isV (α := Int) p4), (5, isA (α := S_api_Market) p0), (14, isV (α := Int) y_24), (15, isV (α := Int) y_25), (16, isV (α := Int) s_11.2.2)] w0 a w) ?_ ?_
    · refine st_cond hS rfl (fun hb => ?_) (fun hb => ?_)
      · have h := ite_t hb hj_23
        obtain ⟨v_26, e_27, h⟩ := bind_some h
        refine st_reg mixed (by kernel_rfl) hS ?_
        refine mv rfl ?_
        refine cg (sp_load ty24 (od rfl)) ?_
        refine mv rfl ?_
        refine cg (sp_call en81 (f81_ok e_27) ⟨od rfl, od rfl, trivial⟩) ?_
        refine cg (sp_min (od rfl) (od rfl)) ?_
        refine cg (sp_assign (od rfl)) ?_
        refine sn fun a w hS => ?_
        cases h
        exact ⟨rfl, hS.weak ⟨od rfl, od rfl, od rfl, od rfl, od rfl, od rfl, od rfl, od rfl, trivial⟩⟩
      have h := ite_f hb hj_23
      obtain ⟨v_28, e_29, h⟩ := bind_some h
      refine st_reg mixed (by kernel_rfl) hS ?_
      refine mv rfl ?_
      refine cg (sp_load ty24 (od rfl)) ?_
      refine mv rfl ?_
      refine cg (sp_call en81 (f81_ok e_29) ⟨od rfl, od rfl, trivial⟩) ?_
      refine cg (sp_min (od rfl) (od rfl)) ?_
      refine cg (sp_assign (od rfl)) ?_
      refine sn fun a w hS => ?_
      cases h
      exact ⟨rfl, hS.weak ⟨od rfl, od rfl, od rfl, od rfl, od rfl, od rfl, od rfl, od rfl, trivial⟩⟩
    rintro e a w ⟨rfl, hS⟩
    refine exit_block ?_
    refine et ?_
    refine st_reg mixed (by kernel_rfl) hS ?_
    refine mv rfl ?_
    refine cg (sp_add (od rfl) (odi)) ?_
    refine cg (sp_assign (od rfl)) ?_
    refine sn fun a w hS => ?_
    cases h
    exact ⟨_, hN_12 _ rfl, hS.weak ⟨od rfl, od rfl, od rfl, od rfl, od rfl, od rfl, od rfl, od rfl, trivial⟩⟩
  have h := ite_f hb h
  refine wp_exit ?_
  refine exit_thenE ?_
  cases h
  obtain rfl := hL_12 _ rfl
  have h := hr_14
  refine exit_thenE ?_
  refine exit_here ?_
  refine et ?_
  refine ws ?_
  refine ws ?_
  refine st_reg mixed (by kernel_rfl) hS ?_
  refine mv rfl ?_
  refine cg (sp_geq (od rfl) (odi)) ?_
  refine sn fun a w hS => ?_
  refine et ?_
  refine st_cond hS rfl (fun hb => ?_) (fun hb => ?_)
  · have h := ite_t hb h
    refine ws ?_
    refine st_reg mixed (by kernel_rfl) hS ?_
    refine cg (sp_assign (odi)) ?_
    refine cg (sp_assign (odb)) ?_
    refine cg (sp_assign (odi)) ?_
    refine sn fun a w hS => ?_
    refine et ?_
    refine wp_ret ?_
    refine exit_thenR ?_
    cases h
    exact st_ret hS (run_results3 Try.results21 a w) (⟨_, rfl, hS.get rfl, hS.get rfl, hS.get rfl, trivial⟩)
  have h := ite_f hb h
  refine wp_skip ?_
  refine et ?_
  refine ws ?_
  refine st_reg mixed (by kernel_rfl) hS ?_
  refine mv rfl ?_
  refine mv rfl ?_
  refine cg (sp_sub (od rfl) (od rfl)) ?_
  refine cg (sp_assign (od rfl)) ?_
  refine cg (sp_assign (odb)) ?_
  refine cg (sp_assign (odi)) ?_
  refine sn fun a w hS => ?_
  refine et ?_
  refine wp_ret ?_
  cases h
  exact st_ret hS (run_results3 Try.results21 a w) (⟨_, rfl, hS.get rfl, hS.get rfl, hS.get rfl, trivial⟩)

theorem f84_ok {fuel : Nat} {p0 : S_api_Market} {p1 : List Int} {p2 : Int} {p3 : Int} {r : Int} (h : M.f84 fuel p0 p1 p2 p3 = some r) : CallOK Try.prog 84 [isV p0, isV p1, isV p2, isV p3] (isV r) := by
  unfold M.f84 at h
  refine callS_of Try.func84 rfl Try.ntmps84 rfl fun F0 w0 a hS => ?_
  refine ws ?_
  refine st_reg mixed (by kernel_rfl) hS ?_
  refine cg (sp_box (od rfl)) ?_
  refine cg (sp_assign (odi)) ?_
  refine sn fun a w hS => ?_
  refine et ?_
  refine ws ?_
  obtain ⟨v_1, e_2, h⟩ := bind_some h
  obtain ⟨v_3, e_4, h⟩ := bind_some h
  obtain ⟨v_5, e_6, h⟩ := bind_some h
  obtain ⟨v_7, e_8, h⟩ := bind_some h
  refine st_reg mixed (by kernel_rfl) hS ?_
  refine cg (sp_fieldAddr fd24_0 (od rfl)) ?_
  refine cg (sp_load ty3 (od rfl)) ?_
  refine cg (sp_load ty24 (od rfl)) ?_
  refine mv rfl ?_
  refine cg (sp_call en102 (f102_ok e_2) ⟨od rfl, od rfl, trivial⟩) ?_
  refine cg (sp_call en101 (callOK_tab (f101_ok e_4)) ⟨od rfl, od rfl, trivial⟩) ?_
  refine mv rfl ?_
  refine cg (sp_indexAddr sl75 (od rfl) (od rfl) e_6) ?_
  refine cg (sp_load ty27 (od rfl)) ?_
  refine mv rfl ?_
  refine cg (sp_indexAddr sl27 (od rfl) (od rfl) e_8) ?_
  refine cg (sp_load ty3 (od rfl)) ?_
  refine cg (sp_assign (od rfl)) ?_
  refine sn fun a w hS => ?_
  refine et ?_
  refine wp_ret ?_
  cases h
  exact st_ret hS (run_results1 Try.results84 a w) (hS.get rfl)

theorem f23_ok {fuel : Nat} {p0 : S_api_Market} {p1 : Int} {p2 : Int} {p3 : Int} {r : Int × Bool × Int} (h : M.f23 fuel p0 p1 p2 p3 = some r) : CallOK Try.prog 23 [isV p0, isV p1, isV p2, isV p3] (isTup [isV r.1, isV r.2.1, isV r.2.2]) := by
  unfold M.f23 at h
  refine callS_of Try.func23 rfl Try.ntmps23 rfl fun F0 w0 a hS => ?_
  refine ws ?_
  refine st_reg mixed (by kernel_rfl) hS ?_
  refine cg (sp_box (od rfl)) ?_
  refine cg (sp_assign (odi)) ?_
  refine cg (sp_assign (odb)) ?_
  refine cg (sp_assign (odi)) ?_
  refine sn fun a w hS => ?_
  refine et ?_
  refine ws ?_
  refine ws ?_
  obtain ⟨v_1, e_2, h⟩ := bind_some h
  refine st_reg mixed (by kernel_rfl) hS ?_
  refine cg (sp_load ty24 (od rfl)) ?_
  refine mv rfl ?_
  refine mv rfl ?_
  refine mv rfl ?_
  refine cg (sp_buildSlice [.tmp 17, .tmp 18] ([p1, p2] : List Int) sl27 ze3 rfl rfl rfl rfl ⟨od rfl, od rfl, trivial⟩) ?_
  refine cg (sp_call en72 (f72_ok e_2) ⟨od rfl, odnil (α := Int), od rfl, od rfl, trivial⟩) ?_
  refine cg (sp_assign (od rfl)) ?_
  refine sn fun a w hS => ?_
  refine et ?_
  refine ws ?_
  refine st_reg mixed (by kernel_rfl) hS ?_
  refine mv rfl ?_
  refine cg (sp_neq (od rfl) (odi)) ?_
  refine sn fun a w hS => ?_
  refine et ?_
  refine st_cond hS rfl (fun hb => ?_) (fun hb => ?_)
  · have h := ite_t hb h
    refine ws ?_
    refine st_reg mixed (by kernel_rfl) hS ?_
    refine mv rfl ?_
    refine cg (sp_assign (odi)) ?_
    refine cg (sp_assign (odb)) ?_
    refine cg (sp_assign (od rfl)) ?_
    refine sn fun a w hS => ?_
    refine et ?_
    refine wp_ret ?_
    refine exit_thenR ?_
    cases h
    exact st_ret hS (run_results3 Try.results23 a w) (⟨_, rfl, hS.get rfl, hS.get rfl, hS.get rfl, trivial⟩)
  have h := ite_f hb h
  refine wp_skip ?_
  refine et ?_
  refine ws ?_
  refine st_reg mixed (by kernel_rfl) hS ?_
  refine cg (sp_assign (odi)) ?_
  refine sn fun a w hS => ?_
  refine et ?_
  refine ws ?_
  refine ws ?_
  refine st_reg mixed (by kernel_rfl) hS ?_
  refine cg (sp_assign (odi)) ?_
  refine sn fun a w hS => ?_
  refine et ?_
  refine wp_block ?_
  obtain ⟨o_4, e_5, hr_6⟩ := bind_some h
  refine c_loop (fun K a w => ∃ s_3 : Int × Int, loopM _ K s_3 = some o_4 ∧ St 50 F0 [] [(1, isV (α := Int) p1), (2, isV (α := Int) p2), (3, isV (α := Int) p3), (4, isA (α := S_api_Market) p0), (12, isV (α := Int) s_3.1), (13, isV (α := Int) s_3.2)] w0 a w) ?_ ?_ ⟨_, e_5, hS.weak ⟨od rfl, od rfl, od rfl, od rfl, od rfl, od rfl, trivial⟩⟩
  · rintro a w ⟨_, hk, _⟩; cases hk
  rintro K a w ⟨s_3, hF_4, hS⟩
  obtain ⟨o, h, hN_4, hL_4⟩ := loop_more hF_4
  refine ws ?_
  refine ws ?_
  obtain ⟨v_7, e_8, h⟩ := bind_some h
  refine st_reg mixed (by kernel_rfl) hS ?_
  refine mv rfl ?_
  refine cg (sp_fieldAddr fd24_2 (od rfl)) ?_
  refine cg (sp_load ty22 (od rfl)) ?_
  refine cg (sp_len Try.underlying22 (od rfl)) ?_
  refine cg (sp_shl (odi) (od rfl) e_8) ?_
  refine cg (sp_lss (od rfl) (od rfl)) ?_
  refine sn fun a w hS => ?_
  refine et ?_
  refine st_cond hS rfl (fun hb => ?_) (fun hb => ?_)
  · have h := ite_t hb h
    refine wp_skip ?_
    refine et ?_
    refine ws ?_
    refine wp_block ?_
    refine ws ?_
    obtain ⟨v_9, e_10, h⟩ := bind_some h
    refine st_reg mixed (by kernel_rfl) hS ?_
    refine cg (sp_load ty24 (od rfl)) ?_
    refine mv rfl ?_
    refine cg (sp_call en74 (f74_ok e_10) ⟨od rfl, od rfl, trivial⟩) ?_
    refine cg (sp_assign (od rfl)) ?_
    refine sn fun a w hS => ?_
    refine et ?_
    refine ws ?_
    obtain ⟨v_11, e_12, h⟩ := bind_some h
    refine st_reg mixed (by kernel_rfl) hS ?_
    refine cg (sp_load ty24 (od rfl)) ?_
    refine mv rfl ?_
    refine cg (sp_call en81 (f81_ok e_12) ⟨od rfl, od rfl, trivial⟩) ?_
    refine mv rfl ?_
    refine cg (sp_leq (od rfl) (od rfl)) ?_
    refine sn fun a w hS => ?_
    refine et ?_
    obtain ⟨y_14, hj_13, h⟩ := bind_some h
    refine wp_mono (Q := fun e a w => e = Exit.normal ∧ St 50 F0 [] [(1, isV (α := Int) p1), (2, isV (α := Int) p2), (3, isV (α := Int) p3), (4, isA (α := S_api_Market) p0), (12, isV (α := Int) y_14), (13, isV (α := Int) s_3.2)] w0 a w) ?_ ?_
    · refine st_cond hS rfl (fun hb => ?_) (fun hb => ?_)
      · have h := ite_t hb hj_13
        obtain ⟨v_15, e_16, h⟩ := bind_some h
        refine st_reg mixed (by kernel_rfl) hS ?_
        refine mv rfl ?_
        refine cg (sp_load ty24 (od rfl)) ?_
        refine mv rfl ?_
        refine mv rfl ?_
        refine mv rfl ?_
        refine cg (sp_call en84 (f84_ok e_16) ⟨od rfl, od rfl, od rfl, od rfl, trivial⟩) ?_
        refine cg (sp_min (od rfl) (od rfl)) ?_
        refine cg (sp_assign (od rfl)) ?_
        refine sn fun a w hS => ?_
        cases h
        exact ⟨rfl, hS.weak ⟨od rfl, od rfl, od rfl, od rfl, od rfl, od rfl, trivial⟩⟩
      have h := ite_f hb hj_13
      refine wp_skip ?_
      cases h
      exact ⟨rfl, hS.weak ⟨od rfl, od rfl, od rfl, od rfl, od rfl, od rfl, trivial⟩⟩
    rintro e a w ⟨rfl, hS⟩
    refine exit_block ?_
    refine et ?_
    refine st_reg mixed (by kernel_rfl) hS ?_
    refine mv rfl ?_
    refine cg (sp_add (od rfl) (odi)) ?_
    refine cg (sp_assign (od rfl)) ?_
    refine sn fun a w hS => ?_
    cases h
    exact ⟨_, hN_4 _ rfl, hS.weak ⟨od rfl, od rfl, od rfl, od rfl, od rfl, od rfl, trivial⟩⟩
  have h := ite_f hb h
  refine wp_exit ?_
  refine exit_thenE ?_
  cases h
  obtain rfl := hL_4 _ rfl
  have h := hr_6
  refine exit_thenE ?_
  refine exit_here ?_
  refine et ?_
  refine ws ?_
  refine ws ?_
  refine st_reg mixed (by kernel_rfl) hS ?_
  refine mv rfl ?_
  refine cg (sp_geq (od rfl) (odi)) ?_
  refine sn fun a w hS => ?_
  refine et ?_
  refine st_cond hS rfl (fun hb => ?_) (fun hb => ?_)
  · have h := ite_t hb h
    refine ws ?_
    refine st_reg mixed (by kernel_rfl) hS ?_
    refine cg (sp_assign (odi)) ?_
    refine cg (sp_assign (odb)) ?_
    refine cg (sp_assign (odi)) ?_
    refine sn fun a w hS => ?_
    refine et ?_
    refine wp_ret ?_
    refine exit_thenR ?_
    cases h
    exact st_ret hS (run_results3 Try.results23 a w) (⟨_, rfl, hS.get rfl, hS.get rfl, hS.get rfl, trivial⟩)
  have h := ite_f hb h
  refine wp_skip ?_
  refine et ?_
  refine ws ?_
  refine st_reg mixed (by kernel_rfl) hS ?_
  refine mv rfl ?_
  refine cg (sp_assign (od rfl)) ?_
  refine cg (sp_assign (odb)) ?_
  refine cg (sp_assign (odi)) ?_
  refine sn fun a w hS => ?_
  refine et ?_
  refine wp_ret ?_
  cases h
  exact st_ret hS (run_results3 Try.results23 a w) (⟨_, rfl, hS.get rfl, hS.get rfl, hS.get rfl, trivial⟩)

theorem f3_ok {fuel : Nat} {p0 : S_api_Market} {p1 : Int} {p2 : Int} {p3 : Int} {p4 : Int} {p5 : Int} {r : Bool} (h : M.f3 fuel p0 p1 p2 p3 p4 p5 = some r) : CallOK Try.prog 3 [isV p0, isV p1, isV p2, isV p3, isV p4, isV p5] (isV r) := by
  unfold M.f3 at h
  refine callS_of Try.func3 rfl Try.ntmps3 rfl fun F0 w0 a hS => ?_
  refine ws ?_
  refine st_reg mixed (by kernel_rfl) hS ?_
  refine cg (sp_box (od rfl)) ?_
  refine cg (sp_assign (odb)) ?_
  refine sn fun a w hS => ?_
  refine et ?_
  refine ws ?_
  refine ws ?_
  obtain ⟨v_1, e_2, h⟩ := bind_some h
  refine st_reg mixed (by kernel_rfl) hS ?_
  refine cg (sp_call en16 (f16_ok e_2) trivial) ?_
  refine cg (sp_not (od rfl)) ?_
  refine sn fun a w hS => ?_
  refine et ?_
  refine st_cond hS rfl (fun hb => ?_) (fun hb => ?_)
  · have h := ite_t hb h
    refine ws ?_
    refine st_reg mixed (by kernel_rfl) hS ?_
    refine cg (sp_assign (odb)) ?_
    refine sn fun a w hS => ?_
    refine et ?_
    refine wp_ret ?_
    refine exit_thenR ?_
    cases h
    exact st_ret hS (run_results1 Try.results3 a w) (hS.get rfl)
  have h := ite_f hb h
  refine wp_skip ?_
  refine et ?_
  refine ws ?_
  refine ws ?_
  obtain ⟨v_3, e_4, h⟩ := bind_some h
  refine st_reg mixed (by kernel_rfl) hS ?_
  refine cg (sp_load ty24 (od rfl)) ?_
  refine cg (sp_call en17 (f17_ok e_4) ⟨od rfl, trivial⟩) ?_
  refine cg (sp_not (od rfl)) ?_
  refine sn fun a w hS => ?_
  refine et ?_
  refine st_cond hS rfl (fun hb => ?_) (fun hb => ?_)
  · have h := ite_t hb h
    refine ws ?_
    refine st_reg mixed (by kernel_rfl) hS ?_
    refine cg (sp_assign (odb)) ?_
    refine sn fun a w hS => ?_
    refine et ?_
    refine wp_ret ?_
    refine exit_thenR ?_
    cases h
    exact st_ret hS (run_results1 Try.results3 a w) (hS.get rfl)
  have h := ite_f hb h
  refine wp_skip ?_
  refine et ?_
  refine ws ?_
  obtain ⟨v_5, e_6, h⟩ := bind_some h
  refine st_reg mixed (by kernel_rfl) hS ?_
  refine cg (sp_load ty24 (od rfl)) ?_
  refine mv rfl ?_
  refine mv rfl ?_
  refine mv rfl ?_
  refine cg (sp_call en18 (f18_ok e_6) ⟨od rfl, od rfl, od rfl, od rfl, trivial⟩) ?_
  refine mv rfl ?_
  refine cg (sp_extract (od rfl) rfl) ?_
  refine cg (sp_extract (od rfl) rfl) ?_
  refine cg (sp_assign (od rfl)) ?_
  refine cg (sp_assign (od rfl)) ?_
  refine sn fun a w hS => ?_
  refine et ?_
  refine ws ?_
  obtain ⟨v_7, e_8, h⟩ := bind_some h
  refine st_reg mixed (by kernel_rfl) hS ?_
  refine cg (sp_load ty24 (od rfl)) ?_
  refine mv rfl ?_
  refine mv rfl ?_
  refine mv rfl ?_
  refine cg (sp_call en19 (f19_ok e_8) ⟨od rfl, od rfl, od rfl, od rfl, trivial⟩) ?_
  refine mv rfl ?_
  refine cg (sp_extract (od rfl) rfl) ?_
  refine cg (sp_extract (od rfl) rfl) ?_
  refine cg (sp_assign (od rfl)) ?_
  refine cg (sp_assign (od rfl)) ?_
  refine sn fun a w hS => ?_
  refine et ?_
  refine ws ?_
  obtain ⟨v_9, e_10, h⟩ := bind_some h
  refine st_reg mixed (by kernel_rfl) hS ?_
  refine cg (sp_load ty24 (od rfl)) ?_
  refine mv rfl ?_
  refine mv rfl ?_
  refine mv rfl ?_
  refine mv rfl ?_
  refine cg (sp_call en20 (f20_ok e_10) ⟨od rfl, od rfl, od rfl, od rfl, od rfl, trivial⟩) ?_
  refine mv rfl ?_
  refine cg (sp_extract (od rfl) rfl) ?_
  refine cg (sp_extract (od rfl) rfl) ?_
  refine cg (sp_extract (od rfl) rfl) ?_
  refine cg (sp_assign (od rfl)) ?_
  refine cg (sp_assign (od rfl)) ?_
  refine cg (sp_assign (od rfl)) ?_
  refine sn fun a w hS => ?_
  refine et ?_
  refine ws ?_
  obtain ⟨v_11, e_12, h⟩ := bind_some h
  refine st_reg mixed (by kernel_rfl) hS ?_
  refine cg (sp_load ty24 (od rfl)) ?_
  refine mv rfl ?_
  refine mv rfl ?_
  refine mv rfl ?_
  refine mv rfl ?_
  refine cg (sp_call en21 (f21_ok e_12) ⟨od rfl, od rfl, od rfl, od rfl, od rfl, trivial⟩) ?_
  refine mv rfl ?_
  refine cg (sp_extract (od rfl) rfl) ?_
  refine cg (sp_extract (od rfl) rfl) ?_
  refine cg (sp_extract (od rfl) rfl) ?_
  refine cg (sp_assign (od rfl)) ?_
  refine cg (sp_assign (od rfl)) ?_
  refine cg (sp_assign (od rfl)) ?_
  refine sn fun a w hS => ?_
  refine et ?_
  refine ws ?_
  obtain ⟨v_13, e_14, h⟩ := bind_some h
  refine st_reg mixed (by kernel_rfl) hS ?_
  refine cg (sp_load ty24 (od rfl)) ?_
  refine mv rfl ?_
  refine mv rfl ?_
  refine mv rfl ?_
  refine cg (sp_call en22 (f22_ok e_14) ⟨od rfl, od rfl, od rfl, od rfl, trivial⟩) ?_
  refine mv rfl ?_
  refine cg (sp_extract (od rfl) rfl) ?_
  refine cg (sp_extract (od rfl) rfl) ?_
  refine cg (sp_extract (od rfl) rfl) ?_
  refine cg (sp_assign (od rfl)) ?_
  refine cg (sp_assign (od rfl)) ?_
  refine cg (sp_assign (od rfl)) ?_
  refine sn fun a w hS => ?_
  refine et ?_
  refine ws ?_
  obtain ⟨v_15, e_16, h⟩ := bind_some h
  refine st_reg mixed (by kernel_rfl) hS ?_
  refine cg (sp_load ty24 (od rfl)) ?_
  refine mv rfl ?_
  refine mv rfl ?_
  refine mv rfl ?_
  refine cg (sp_call en23 (f23_ok e_16) ⟨od rfl, od rfl, od rfl, od rfl, trivial⟩) ?_
  refine mv rfl ?_
  refine cg (sp_extract (od rfl) rfl) ?_
  refine cg (sp_extract (od rfl) rfl) ?_
  refine cg (sp_extract (od rfl) rfl) ?_
  refine cg (sp_assign (od rfl)) ?_
  refine cg (sp_assign (od rfl)) ?_
  refine cg (sp_assign (od rfl)) ?_
  refine sn fun a w hS => ?_
  refine et ?_
  refine ws ?_
  obtain ⟨v_17, e_18, h⟩ := bind_some h
  refine st_reg mixed (by kernel_rfl) hS ?_
  refine mv rfl ?_
  refine mv rfl ?_
  refine cg (sp_call en24 (f24_ok e_18) ⟨od rfl, od rfl, trivial⟩) ?_
  refine mv rfl ?_
  refine sc (sgT rfl fun hG => sp_move (od rfl)) ?_
  refine sc (sgT rfl fun hG => sp_move (od rfl)) ?_
  refine sc (sgT rfl fun hG => sp_eql (odw rfl hG) (odw rfl hG)) ?_
  refine cg (sp_pickAnd (od rfl) fun hg => odw rfl hg) ?_
  refine mv rfl ?_
  refine sc (sgT rfl fun hG => sp_move (od rfl)) ?_
  refine sc (sgT rfl fun hG => sp_move (od rfl)) ?_
  refine sc (sgT rfl fun hG => sp_eql (odw rfl hG) (odw rfl hG)) ?_
  refine cg (sp_pickAnd (od rfl) fun hg => odw rfl hg) ?_
  refine mv rfl ?_
  refine sc (sgT rfl fun hG => sp_move (od rfl)) ?_
  refine sc (sgT rfl fun hG => sp_move (od rfl)) ?_
  refine sc (sgT rfl fun hG => sp_eqlB Try.underlying4 (odw rfl hG) (odw rfl hG)) ?_
  refine cg (sp_pickAnd (od rfl) fun hg => odw rfl hg) ?_
  refine mv rfl ?_
  refine sc (sgT rfl fun hG => sp_move (od rfl)) ?_
  refine sc (sgT rfl fun hG => sp_move (od rfl)) ?_
  refine sc (sgT rfl fun hG => sp_eql (odw rfl hG) (odw rfl hG)) ?_
  refine cg (sp_pickAnd (od rfl) fun hg => odw rfl hg) ?_
  refine mv rfl ?_
  refine sc (sgT rfl fun hG => sp_move (od rfl)) ?_
  refine sc (sgT rfl fun hG => sp_move (od rfl)) ?_
  refine sc (sgT rfl fun hG => sp_eql (odw rfl hG) (odw rfl hG)) ?_
  refine cg (sp_pickAnd (od rfl) fun hg => odw rfl hg) ?_
  refine mv rfl ?_
  refine sc (sgT rfl fun hG => sp_move (od rfl)) ?_
  refine sc (sgT rfl fun hG => sp_move (od rfl)) ?_
  refine sc (sgT rfl fun hG => sp_eqlB Try.underlying4 (odw rfl hG) (odw rfl hG)) ?_
  refine cg (sp_pickAnd (od rfl) fun hg => odw rfl hg) ?_
  refine mv rfl ?_
  refine sc (sgT rfl fun hG => sp_move (od rfl)) ?_
  refine sc (sgT rfl fun hG => sp_move (od rfl)) ?_
  refine sc (sgT rfl fun hG => sp_eql (odw rfl hG) (odw rfl hG)) ?_
  refine cg (sp_pickAnd (od rfl) fun hg => odw rfl hg) ?_
  refine cg (sp_assign (od rfl)) ?_
  refine sn fun a w hS => ?_
  refine et ?_
  refine wp_ret ?_
  cases h
  exact st_ret hS (run_results1 Try.results3 a w) (hS.get rfl)

end Go.Proofs.Ytkbilbeaedocjaa
