/-
  What is proved: each Go function named here returns what its model tells, and changes nothing that was there; where the model tells something.
-/
import Derived.Test.YtkbilbeaedocjaaWalkB2
import Derived.Test.YtkbilbeaedocjaaModelS
set_option linter.unusedVariables false
set_option maxRecDepth 100000
namespace Go.Proofs.Ytkbilbeaedocjaa
open Go Go.RowKit Go.Proofs.Ytkbilbeaedocjaa.Wh

theorem f111_ok {p0 : Int} {c0 : List (List Int)} {c1 : Int} {r : Int} (h : M.f111 p0 c0 c1 = some r) : CallOK Try.prog 111 [isV p0, isA c0, isA c1] (isV r) := by
  unfold M.f111 at h
  refine callS_of Try.func111 rfl Try.ntmps111 rfl fun F0 w0 a hS => ?_
  refine ws ?_
  refine st_reg mixed (by kernel_rfl) hS ?_
  refine cg (sp_assign (odi)) ?_
  refine sn fun a w hS => ?_
  refine et ?_
  refine ws ?_
  refine ws ?_
  obtain ⟨v_1, e_2, h⟩ := bind_some h
  obtain ⟨v_3, e_4, h⟩ := bind_some h
  refine st_reg mixed (by kernel_rfl) hS ?_
  refine cg (sp_load ty112 (od rfl)) ?_
  refine cg (sp_load ty3 (od rfl)) ?_
  refine cg (sp_indexAddr sl112 (od rfl) (od rfl) e_2) ?_
  refine cg (sp_load ty27 (od rfl)) ?_
  refine mv rfl ?_
  refine cg (sp_indexAddr sl27 (od rfl) (od rfl) e_4) ?_
  refine cg (sp_load ty3 (od rfl)) ?_
  refine cg (sp_geq (od rfl) (odi)) ?_
  refine sn fun a w hS => ?_
  refine et ?_
  refine st_cond hS rfl (fun hb => ?_) (fun hb => ?_)
  · have h := ite_t hb h
    refine ws ?_
    refine st_reg mixed (by kernel_rfl) hS ?_
    refine cg (sp_assign (odi)) ?_
    refine sn fun a w hS => ?_
    refine et ?_
    refine wp_ret ?_
    refine exit_thenR ?_
    cases h
    exact st_ret hS (run_results1 Try.results111 a w) (hS.get rfl)
  have h := ite_f hb h
  refine wp_skip ?_
  refine et ?_
  refine ws ?_
  obtain ⟨v_5, e_6, h⟩ := bind_some h
  obtain ⟨v_7, e_8, h⟩ := bind_some h
  refine st_reg mixed (by kernel_rfl) hS ?_
  refine cg (sp_load ty112 (od rfl)) ?_
  refine cg (sp_load ty3 (od rfl)) ?_
  refine cg (sp_indexAddr sl112 (od rfl) (od rfl) e_6) ?_
  refine cg (sp_load ty27 (od rfl)) ?_
  refine mv rfl ?_
  refine cg (sp_indexAddr sl27 (od rfl) (od rfl) e_8) ?_
  refine cg (sp_load ty3 (od rfl)) ?_
  refine cg (sp_assign (od rfl)) ?_
  refine sn fun a w hS => ?_
  refine et ?_
  refine wp_ret ?_
  cases h
  exact st_ret hS (run_results1 Try.results111 a w) (hS.get rfl)

theorem f112_ok {p0 : S_api_Offer} {c0 : (Int → Option Int)} {r : S_api_Span} (h : M.f112 p0 c0 = some r) : CallOK Try.prog 112 [isV p0, isA c0] (isV r) := by
  unfold M.f112 at h
  refine callS_of Try.func112 rfl Try.ntmps112 rfl fun F0 w0 a hS => ?_
  refine ws ?_
  refine l_start ?_
  refine s_c hS (sg (sp_box (od rfl))) rfl fun a w hS hM => ?_
  refine s_alloc zi82 hS rfl fun a w b_1 hS hM => ?_
  have hS : St _ F0 [Item.box (α := S_api_Span) 82 b_1 ((0, 0) : S_api_Span)] _ w0 _ _ := hS
  refine l_end ?_
  refine et ?_
  refine ws ?_
  obtain ⟨v_2, e_3, h⟩ := bind_some h
  obtain ⟨v_4, e_5, h⟩ := bind_some h
  refine st_reg mixed (by kernel_rfl) hS ?_
  refine cg (sp_load ty122 (od rfl)) ?_
  refine cg (sp_fieldAddr fd59_1 (od rfl)) ?_
  refine cg (sp_load ty3 (od rfl)) ?_
  refine cg (sp_callV (od_fn122 (od rfl)) ⟨od rfl, trivial⟩ e_3) ?_
  refine cg (sp_load ty122 (od rfl)) ?_
  refine cg (sp_fieldAddr fd59_0 (od rfl)) ?_
  refine cg (sp_load ty3 (od rfl)) ?_
  refine cg (sp_callV (od_fn122 (od rfl)) ⟨od rfl, trivial⟩ e_5) ?_
  refine cg (sp_sub (od rfl) (od rfl)) ?_
  refine cg (sp_min (odi) (od rfl)) ?_
  refine cg (sp_assign (od rfl)) ?_
  refine sn fun a w hS => ?_
  refine et ?_
  refine ws ?_
  refine l_start ?_
  refine s_c hS (sg (sp_move (od rfl))) rfl fun a w hS hM => ?_
  refine s_c hS (sg (sp_move (od rfl))) rfl fun a w hS hM => ?_
  refine s_c hS (sg (sp_fieldAddr fd59_3 (od rfl))) rfl fun a w hS hM => ?_
  refine s_c hS (sg (sp_load ty3 (od rfl))) rfl fun a w hS hM => ?_
  refine s_c hS (sg (sp_add (od rfl) (od rfl))) rfl fun a w hS hM => ?_
  refine s_c hS (sg (bd82_01 (od rfl) (od rfl))) rfl fun a w hS hM => ?_
  refine s_storeB (k := 0) (Δ := [(3, Pr.ptr b_1), (20, isV (α := S_api_Span) (((imin 0 (wr (v_2 - v_4))), (wr ((imin 0 (wr (v_2 - v_4))) + p0.2.2.2))) : S_api_Span))]) ty82 hS rfl ⟨od rfl, od rfl, trivial⟩ ⟨fun _ _ _ _ h => h, fun _ _ _ _ h => h, trivial⟩ rfl (od rfl) fun w hS hM => ?_
  have hS : St _ F0 [Item.box (α := S_api_Span) 82 b_1 (((imin 0 (wr (v_2 - v_4))), (wr ((imin 0 (wr (v_2 - v_4))) + p0.2.2.2))) : S_api_Span)] _ w0 _ _ := hS
  have hS := st_freezeB 0 3 hS rfl rfl
  refine l_end ?_
  refine et ?_
  refine wp_ret ?_
  cases h
  obtain ⟨v, hr, hv⟩ := run_resC1 Try.results112 ty82 (hS.get rfl)
  exact st_ret hS hr hv

theorem f63_ok {p0 : S_api_Market} {p1 : List Int} {p2 : Int} {p3 : Int} {r : (List S_api_Span) × (List S_api_Span) × Int} (h : M.f63 p0 p1 p2 p3 = some r) : CallOK Try.prog 63 [isV p0, isV p1, isV p2, isV p3] (isTup [isV r.1, isV r.2.1, isV r.2.2]) := by
  unfold M.f63 at h
  refine callS_of Try.func63 rfl Try.ntmps63 rfl fun F0 w0 a hS => ?_
  refine ws ?_
  refine st_reg mixed (by kernel_rfl) hS ?_
  refine cg (sp_box (od rfl)) ?_
  refine cg (sp_box (od rfl)) ?_
  refine cg (sp_assign (odnil (α := S_api_Span))) ?_
  refine cg (sp_assign (odnil (α := S_api_Span))) ?_
  refine cg (sp_assign (odi)) ?_
  refine sn fun a w hS => ?_
  refine et ?_
  refine ws ?_
  refine ws ?_
  obtain ⟨v_1, e_2, h⟩ := bind_some h
  refine st_reg mixed (by kernel_rfl) hS ?_
  refine cg (sp_load ty24 (od rfl)) ?_
  refine mv rfl ?_
  refine cg (sp_load ty3 (od rfl)) ?_
  refine mv rfl ?_
  refine cg (sp_buildSlice [.tmp 23, .tmp 24] ([p2, p3] : List Int) sl27 ze3 rfl rfl rfl rfl ⟨od rfl, od rfl, trivial⟩) ?_
  refine cg (bd106_0 (od rfl)) ?_
  refine cg (sp_call en76 (f76_ok e_2) ⟨od rfl, od rfl, od rfl, trivial⟩) ?_
  refine cg (sp_assign (od rfl)) ?_
  refine sn fun a w hS => ?_
  refine et ?_
  refine ws ?_
  refine st_reg mixed (by kernel_rfl) hS ?_
  refine mv rfl ?_
  refine cg (sp_neq (od rfl) (odi)) ?_
  refine sn fun a w hS => ?_
  refine et ?_
  refine st_cond hS rfl (fun hb => ?_) (fun hb => ?_)
  · have h := ite_t hb h
    refine ws ?_
    refine st_reg mixed (by kernel_rfl) hS ?_
    refine mv rfl ?_
    refine cg (sp_assign (odnil (α := S_api_Span))) ?_
    refine cg (sp_assign (odnil (α := S_api_Span))) ?_
    refine cg (sp_assign (od rfl)) ?_
    refine sn fun a w hS => ?_
    refine et ?_
    refine wp_ret ?_
    refine exit_thenR ?_
    cases h
    exact st_ret hS (run_results3 Try.results63 a w) (⟨_, rfl, hS.get rfl, hS.get rfl, hS.get rfl, trivial⟩)
  have h := ite_f hb h
  refine wp_skip ?_
  refine et ?_
  refine ws ?_
  obtain ⟨v_3, e_4, h⟩ := bind_some h
  obtain ⟨v_5, e_6, h⟩ := bind_some h
  have hS := hS.weak (Δ := [(0, isV (α := S_api_Market) p0), (1, isV (α := List Int) p1), (2, isV (α := Int) p2), (3, isV (α := Int) p3), (4, isA (α := S_api_Market) p0), (6, isA (α := Int) p2), (8, isV (α := List S_api_Span) ([] : List S_api_Span)), (9, isV (α := List S_api_Span) ([] : List S_api_Span)), (10, isV (α := Int) 0), (11, isV (α := Int) v_1), (21, isV (α := S_api_Market) p0), (22, isV (α := List Int) p1), (23, isV (α := Int) p2), (24, isV (α := Int) p3), (25, isV (α := List Int) ([p2, p3] : List Int)), (26, isV (α := S_keeper_numbers) ((([p2, p3] : List Int), []) : S_keeper_numbers)), (27, isV (α := Int) v_1), (28, isV (α := Int) v_1), (29, isV (α := Bool) (v_1 != 0))]) ⟨od rfl, od rfl, od rfl, od rfl, od rfl, od rfl, od rfl, od rfl, od rfl, od rfl, od rfl, od rfl, od rfl, od rfl, od rfl, od rfl, od rfl, od rfl, od rfl, trivial⟩
  refine st_pairs mixed [0, 0, 0, 0, 3, 4] [⟨4, 5, 12, 112, List (List Int), inferInstance, ([] : List (List Int)), v_5⟩] (by kernel_rfl) (by kernel_rfl) hS ⟨fun _ _ _ _ h => h, fun _ _ _ _ h => h, fun _ _ _ _ h => h, fun _ _ _ _ h => h, fun _ _ _ _ h => h, fun _ _ _ _ h => h, fun _ _ _ _ h => h, fun _ _ _ _ h => h, fun _ _ _ _ h => h, fun _ _ _ _ h => h, fun _ _ _ _ h => h, fun _ _ _ _ h => h, fun _ _ _ _ h => h, fun _ _ _ _ h => h, fun _ _ _ _ h => h, fun _ _ _ _ h => h, fun _ _ _ _ h => h, fun _ _ _ _ h => h, fun _ _ _ _ h => h, trivial⟩ ?_
  refine sq0 (fun _ _ _ _ h => h) (sg (sp_load ty24 (od rfl))) ?_
  refine sq0 (fun _ _ _ _ h => h) (sg (sp_move (od rfl))) ?_
  refine sq0 (fun _ _ _ _ h => h) (sg (sp_call en92 (f92_ok e_4) ⟨od rfl, trivial⟩)) ?_
  refine sq0 (fun _ _ _ _ h => h) (sg (sp_call en83 (f83_ok e_6) ⟨od rfl, od rfl, trivial⟩)) ?_
  refine sqA 0 rfl zi112 ?_
  refine sqS 0 rfl ty112 (od rfl) ?_
  refine sqN fun a w bs hl hS => ?_
  obtain ⟨b_7, rfl⟩ := len1 hl
  have hS : St _ F0 [Item.box (α := List (List Int)) 112 b_7 (v_5 : List (List Int))] ((12, Pr.ptr b_7) :: _) w0 _ _ := hS
  have hS := st_freezeB 0 12 hS rfl rfl
  refine et ?_
  refine ws ?_
  refine ws ?_
  obtain ⟨v_8, e_9, h⟩ := bind_some h
  obtain ⟨v_10, e_11, h⟩ := bind_some h
  refine st_reg mixed (by kernel_rfl) hS ?_
  refine cg (sp_load ty112 (od rfl)) ?_
  refine cg (sp_load ty3 (od rfl)) ?_
  refine cg (sp_indexAddr sl112 (od rfl) (od rfl) e_9) ?_
  refine cg (sp_load ty27 (od rfl)) ?_
  refine mv rfl ?_
  refine cg (sp_indexAddr sl27 (od rfl) (od rfl) e_11) ?_
  refine cg (sp_load ty3 (od rfl)) ?_
  refine cg (sp_geq (od rfl) (odi)) ?_
  refine sn fun a w hS => ?_
  refine et ?_
  refine st_cond hS rfl (fun hb => ?_) (fun hb => ?_)
  · have h := ite_t hb h
    refine ws ?_
    refine st_reg mixed (by kernel_rfl) hS ?_
    refine cg (sp_assign (odnil (α := S_api_Span))) ?_
    refine cg (sp_assign (odnil (α := S_api_Span))) ?_
    refine cg (sp_assign (odi)) ?_
    refine sn fun a w hS => ?_
    refine et ?_
    refine wp_ret ?_
    refine exit_thenR ?_
    cases h
    exact st_ret hS (run_results3 Try.results63 a w) (⟨_, rfl, hS.get rfl, hS.get rfl, hS.get rfl, trivial⟩)
  have h := ite_f hb h
  refine wp_skip ?_
  refine et ?_
  refine ws ?_
  refine l_start ?_
  refine s_c hS (sg (mk_fn122 (f := (fun x0 => M.f111 x0 (v_5 : List (List Int)) p2)) (κs := [isA (α := List (List Int)) (v_5 : List (List Int)), isA (α := Int) p2]) ⟨fun _ _ _ _ h => h, fun _ _ _ _ h => h, trivial⟩ en111 ⟨od rfl, od rfl, trivial⟩ (fun _ _ h => f111_ok h))) rfl fun a w hS hM => ?_
  refine s_allocStore ze122 hS (od rfl) (fun k hk => by cases hk; rfl) rfl fun a w hS hM => ?_
  refine l_end ?_
  refine et ?_
  refine ws ?_
  refine st_reg mixed (by kernel_rfl) hS ?_
  refine cg (mk_fn91 (f := (fun x0 => M.f112 x0 ((fun x0 => M.f111 x0 (v_5 : List (List Int)) p2) : (Int → Option Int)))) (κs := [isA (α := (Int → Option Int)) ((fun x0 => M.f111 x0 (v_5 : List (List Int)) p2) : (Int → Option Int))]) ⟨fun _ _ _ _ h => h, trivial⟩ en112 ⟨od rfl, trivial⟩ (fun _ _ h => f112_ok h)) ?_
  refine cg (sp_assign (od rfl)) ?_
  refine sn fun a w hS => ?_
  refine et ?_
  refine ws ?_
  refine st_reg mixed (by kernel_rfl) hS ?_
  refine cg (sp_assign (φ := Pr.is (.slice none 0 0)) (odc fun _ => rfl)) ?_
  refine cg (sp_assign (φ := Pr.is (.slice none 0 0)) (odc fun _ => rfl)) ?_
  refine sn fun a w hS => ?_
  have hS := st_nil (α := S_api_Span) 82 hS
  have hS : St _ F0 [Item.sl (α := S_api_Span) 82 (.slice none 0 0) ([] : List S_api_Span)] _ w0 _ _ := hS
  have hS := st_nil (α := S_api_Span) 82 hS
  have hS : St _ F0 [Item.sl (α := S_api_Span) 82 (.slice none 0 0) ([] : List S_api_Span), Item.sl (α := S_api_Span) 82 (.slice none 0 0) ([] : List S_api_Span)] _ w0 _ _ := hS
  refine et ?_
  refine ws ?_
  refine ws ?_
  refine st_reg mixed (by kernel_rfl) hS ?_
  refine cg (sp_fieldAddr fd24_1 (od rfl)) ?_
  refine cg (sp_load ty22 (od rfl)) ?_
  refine cg (sp_len Try.underlying22 (od rfl)) ?_
  refine cg (sp_move (odi)) ?_
  refine sn fun a w hS => ?_
  refine et ?_
  refine wp_block ?_
  obtain ⟨o_15, e_16, hr_17⟩ := bind_some h
  refine c_loop (fun K a w => ∃ k i_12 s_14, ∃ u_18 : Value, K = k + 1 ∧ ForT _ _ _ o_15 k i_12 s_14 ∧ St 78 F0 [Item.sl (α := S_api_Span) 82 u_18 s_14, Item.sl (α := S_api_Span) 82 (.slice none 0 0) ([] : List S_api_Span)] [(1, isV (α := List Int) p1), (4, isA (α := S_api_Market) p0), (14, isV (α := (S_api_Offer → Option S_api_Span)) ((fun x0 => M.f112 x0 ((fun x0 => M.f111 x0 (v_5 : List (List Int)) p2) : (Int → Option Int))) : (S_api_Offer → Option S_api_Span))), (15, Pr.is u_18), (16, Pr.is (.slice none 0 0)), (46, isV (α := List S_api_Offer) p0.2.1), (47, isV (α := Int) (p0.2.1.length : Int)), (48, isV (α := Int) i_12)] w0 a w) ?_ ?_ ⟨_, _, _, (.slice none 0 0), rfl, fors_init e_16, hS.weak ⟨od rfl, od rfl, od rfl, od rfl, od rfl, od rfl, od rfl, od rfl, trivial⟩⟩
  · rintro a w ⟨_, _, _, _, hk, _⟩; cases hk
  rintro K a w ⟨k_15, i_12, s_14, u_18, hk, hF_15, hS⟩
  obtain rfl := Nat.succ.inj hk
  refine ws ?_
  refine st_reg mixed (by kernel_rfl) hS ?_
  refine cg (sp_lss (od rfl) (od rfl)) ?_
  refine sn fun a w hS => ?_
  refine et ?_
  refine ws ?_
  refine st_cond hS rfl (fun hb => ?_) (fun hb => ?_)
  · refine wp_skip ?_
    refine et ?_
    obtain ⟨k_15, s', rfl, h, hF_15, hw_15⟩ := fors_more hF_15 hb
    refine ws ?_
    refine wp_block ?_
    refine ws ?_
    obtain ⟨v_19, e_20, h⟩ := bind_some h
    refine l_start ?_
    refine s_c hS (sg (sp_indexAddr sl22 (od rfl) (od rfl) e_20)) rfl fun a w hS hM => ?_
    refine s_c hS (sg (sp_load ty59 (od rfl))) rfl fun a w hS hM => ?_
    refine s_allocStore ze59 hS (od rfl) (fun k hk => by cases hk; rfl) rfl fun a w hS hM => ?_
    refine l_end ?_
    refine et ?_
    obtain ⟨v_21, e_22, h⟩ := bind_some h
    obtain ⟨z_23, e_24, h⟩ := bind_some h
    refine l_start ?_
    refine s_c hS (sg (sp_move (od rfl))) rfl fun a w hS hM => ?_
    refine s_c hS (sg (sp_move (od rfl))) rfl fun a w hS hM => ?_
    refine s_c hS (sg (sp_load ty59 (od rfl))) rfl fun a w hS hM => ?_
    refine s_c hS (sg (sp_callV (od_fn91 (od rfl)) ⟨od rfl, trivial⟩ e_22)) rfl fun a w hS hM => ?_
    refine s_c hS (sg (sp_buildSlice [.tmp 55] ([v_21] : List S_api_Span) sl80 ze82 rfl rfl rfl rfl ⟨od rfl, trivial⟩)) rfl fun a w hS hM => ?_
    refine s_append (k := 0) (Δ := [(1, isV (α := List Int) p1), (4, isA (α := S_api_Market) p0), (14, isV (α := (S_api_Offer → Option S_api_Span)) ((fun x0 => M.f112 x0 ((fun x0 => M.f111 x0 (v_5 : List (List Int)) p2) : (Int → Option Int))) : (S_api_Offer → Option S_api_Span))), (16, Pr.is (.slice none 0 0)), (46, isV (α := List S_api_Offer) p0.2.1), (47, isV (α := Int) (p0.2.1.length : Int)), (48, isV (α := Int) i_12), (52, Pr.is u_18), (56, isV (α := List S_api_Span) ([v_21] : List S_api_Span))]) sl80 ze82 hS rfl ⟨od rfl, od rfl, od rfl, od rfl, od rfl, od rfl, od rfl, od rfl, od rfl, trivial⟩ ⟨fun _ _ _ _ h => h, fun _ _ _ _ h => h, fun _ _ _ _ h => h, fun _ _ _ _ h => h, fun _ _ _ _ h => h, fun _ _ _ _ h => h, fun _ _ _ _ h => h, fun _ _ _ _ h => h, fun _ _ _ _ h => h, trivial⟩ (od rfl) (od rfl) e_24 rfl fun a w u_25 hS hM => ?_
    have hS : St _ F0 [Item.sl (α := S_api_Span) 82 u_25 z_23, Item.sl (α := S_api_Span) 82 (.slice none 0 0) ([] : List S_api_Span)] _ w0 _ _ := hS
    refine s_c hS (sg (sp_assign (od rfl))) rfl fun a w hS hM => ?_
    refine l_end ?_
    refine exit_block ?_
    refine et ?_
    refine st_reg mixed (by kernel_rfl) hS ?_
    refine cg (sp_add (od rfl) (odi)) ?_
    refine mv rfl ?_
    refine sn fun a w hS => ?_
    cases h
    exact ⟨k_15, _, _, u_25, rfl, hF_15, hS.weak ⟨od rfl, od rfl, od rfl, od rfl, od rfl, od rfl, od rfl, od (congrArg (fun z => some (isV (α := Int) z)) hw_15), trivial⟩⟩
  refine wp_exit ?_
  obtain rfl := (fors_done hF_15 hb).symm
  have h := hr_17
  refine exit_thenE ?_
  refine exit_thenE ?_
  refine exit_here ?_
  refine et ?_
  refine ws ?_
  refine ws ?_
  refine st_reg mixed (by kernel_rfl) hS ?_
  refine mv rfl ?_
  refine cg (sp_len Try.underlying27 (od rfl)) ?_
  refine cg (sp_move (odi)) ?_
  refine sn fun a w hS => ?_
  refine et ?_
  refine wp_block ?_
  obtain ⟨o_29, e_30, hr_31⟩ := bind_some h
  refine c_loop (fun K a w => ∃ k i_26 s_28, ∃ u_32 : Value, K = k + 1 ∧ ForT _ _ _ o_29 k i_26 s_28 ∧ St 78 F0 [Item.sl (α := S_api_Span) 82 u_18 s_14, Item.sl (α := S_api_Span) 82 u_32 s_28] [(4, isA (α := S_api_Market) p0), (14, isV (α := (S_api_Offer → Option S_api_Span)) ((fun x0 => M.f112 x0 ((fun x0 => M.f111 x0 (v_5 : List (List Int)) p2) : (Int → Option Int))) : (S_api_Offer → Option S_api_Span))), (15, Pr.is u_18), (16, Pr.is u_32), (59, isV (α := List Int) p1), (60, isV (α := Int) (p1.length : Int)), (61, isV (α := Int) i_26)] w0 a w) ?_ ?_ ⟨_, _, _, (.slice none 0 0), rfl, fors_init e_30, hS.weak ⟨od rfl, od rfl, od rfl, od rfl, od rfl, od rfl, od rfl, trivial⟩⟩
  · rintro a w ⟨_, _, _, _, hk, _⟩; cases hk
  rintro K a w ⟨k_29, i_26, s_28, u_32, hk, hF_29, hS⟩
  obtain rfl := Nat.succ.inj hk
  refine ws ?_
  refine st_reg mixed (by kernel_rfl) hS ?_
  refine cg (sp_lss (od rfl) (od rfl)) ?_
  refine sn fun a w hS => ?_
  refine et ?_
  refine ws ?_
  refine st_cond hS rfl (fun hb => ?_) (fun hb => ?_)
  · refine wp_skip ?_
    refine et ?_
    obtain ⟨k_29, s', rfl, h, hF_29, hw_29⟩ := fors_more hF_29 hb
    refine ws ?_
    refine wp_block ?_
    refine ws ?_
    obtain ⟨v_33, e_34, h⟩ := bind_some h
    refine st_reg mixed (by kernel_rfl) hS ?_
    refine cg (sp_indexAddr sl27 (od rfl) (od rfl) e_34) ?_
    refine cg (sp_load ty3 (od rfl)) ?_
    refine cg (sp_assign (od rfl)) ?_
    refine sn fun a w hS => ?_
    refine et ?_
    obtain ⟨v_35, e_36, h⟩ := bind_some h
    obtain ⟨v_37, e_38, h⟩ := bind_some h
    obtain ⟨z_39, e_40, h⟩ := bind_some h
    refine l_start ?_
    refine s_c hS (sg (sp_move (od rfl))) rfl fun a w hS hM => ?_
    refine s_c hS (sg (sp_move (od rfl))) rfl fun a w hS hM => ?_
    refine s_c hS (sg (sp_fieldAddr fd24_2 (od rfl))) rfl fun a w hS hM => ?_
    refine s_c hS (sg (sp_load ty22 (od rfl))) rfl fun a w hS hM => ?_
    refine s_c hS (sg (sp_move (od rfl))) rfl fun a w hS hM => ?_
    refine s_c hS (sg (sp_indexAddr sl22 (od rfl) (od rfl) e_36)) rfl fun a w hS hM => ?_
    refine s_c hS (sg (sp_load ty59 (od rfl))) rfl fun a w hS hM => ?_
    refine s_c hS (sg (sp_callV (od_fn91 (od rfl)) ⟨od rfl, trivial⟩ e_38)) rfl fun a w hS hM => ?_
    refine s_c hS (sg (sp_buildSlice [.tmp 72] ([v_37] : List S_api_Span) sl80 ze82 rfl rfl rfl rfl ⟨od rfl, trivial⟩)) rfl fun a w hS hM => ?_
    refine s_append (k := 1) (Δ := [(4, isA (α := S_api_Market) p0), (14, isV (α := (S_api_Offer → Option S_api_Span)) ((fun x0 => M.f112 x0 ((fun x0 => M.f111 x0 (v_5 : List (List Int)) p2) : (Int → Option Int))) : (S_api_Offer → Option S_api_Span))), (15, Pr.is u_18), (59, isV (α := List Int) p1), (60, isV (α := Int) (p1.length : Int)), (61, isV (α := Int) i_26), (65, Pr.is u_32), (73, isV (α := List S_api_Span) ([v_37] : List S_api_Span))]) sl80 ze82 hS rfl ⟨od rfl, od rfl, od rfl, od rfl, od rfl, od rfl, od rfl, od rfl, trivial⟩ ⟨fun _ _ _ _ h => h, fun _ _ _ _ h => h, fun _ _ _ _ h => h, fun _ _ _ _ h => h, fun _ _ _ _ h => h, fun _ _ _ _ h => h, fun _ _ _ _ h => h, fun _ _ _ _ h => h, trivial⟩ (od rfl) (od rfl) e_40 rfl fun a w u_41 hS hM => ?_
    have hS : St _ F0 [Item.sl (α := S_api_Span) 82 u_18 s_14, Item.sl (α := S_api_Span) 82 u_41 z_39] _ w0 _ _ := hS
    refine s_c hS (sg (sp_assign (od rfl))) rfl fun a w hS hM => ?_
    refine l_end ?_
    refine exit_block ?_
    refine et ?_
    refine st_reg mixed (by kernel_rfl) hS ?_
    refine cg (sp_add (od rfl) (odi)) ?_
    refine mv rfl ?_
    refine sn fun a w hS => ?_
    cases h
    exact ⟨k_29, _, _, u_41, rfl, hF_29, hS.weak ⟨od rfl, od rfl, od rfl, od rfl, od rfl, od rfl, od (congrArg (fun z => some (isV (α := Int) z)) hw_29), trivial⟩⟩
  refine wp_exit ?_
  obtain rfl := (fors_done hF_29 hb).symm
  have h := hr_31
  refine exit_thenE ?_
  refine exit_thenE ?_
  refine exit_here ?_
  refine et ?_
  refine ws ?_
  refine st_reg mixed (by kernel_rfl) hS ?_
  refine mv rfl ?_
  refine mv rfl ?_
  refine cg (sp_assign (od rfl)) ?_
  refine cg (sp_assign (od rfl)) ?_
  refine cg (sp_assign (odi)) ?_
  refine sn fun a w hS => ?_
  refine et ?_
  refine wp_ret ?_
  have hS0 := hS
  have hS := st_freeze 0 8 hS rfl rfl
  have hS := st_also (t := 8) (q := 15) hS0 hS rfl rfl rfl
  have hS := st_also (t := 8) (q := 76) hS0 hS rfl rfl rfl
  have hS0 := hS
  have hS := st_freeze 0 9 hS rfl rfl
  have hS := st_also (t := 9) (q := 16) hS0 hS rfl rfl rfl
  have hS := st_also (t := 9) (q := 77) hS0 hS rfl rfl rfl
  cases h
  exact st_ret hS (run_results3 Try.results63 a w) (⟨_, rfl, hS.get rfl, hS.get rfl, hS.get rfl, trivial⟩)

end Go.Proofs.Ytkbilbeaedocjaa
