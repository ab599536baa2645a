/-
  What is proved: each Go function named here returns what its model tells, and changes nothing that was there; where the model tells something.
-/
import Derived.Test.YtkbilbeaedocjaaWalkB2
import Derived.Test.YtkbilbeaedocjaaModelP
set_option linter.unusedVariables false
set_option maxRecDepth 100000
namespace Go.Proofs.Ytkbilbeaedocjaa
open Go Go.RowKit Go.Proofs.Ytkbilbeaedocjaa.Wh

theorem f115_ok {fuel : Nat} : ∀ {p0 : Int} {c0 : Int} {c1 : S_api_Market} {c2 : Vector Bool 8} {c3 : List (List Int)} {c4 : List (List Int)} {c5 : List Int} {b2 : Nat} {b5 : Nat} {v5 : Value} {r : Bool × (Vector Bool 8) × (List Int)}, M.f115 fuel p0 c0 c1 c2 c3 c4 c5 = some r → CallF Try.prog 115 [Item.box (α := Vector Bool 8) 142 b2 c2, Item.box (α := Raw) 27 b5 (Raw.mk v5), Item.sl (α := Int) 3 v5 c5] [isV p0, isA (α := Int) c0, isA (α := S_api_Market) c1, Pr.ptr b2, isA (α := List (List Int)) c3, isA (α := List (List Int)) c4, Pr.ptr b5, Pr.selfc 115 [isA (α := Int) c0, isA (α := S_api_Market) c1, Pr.ptr b2, isA (α := List (List Int)) c3, isA (α := List (List Int)) c4, Pr.ptr b5]] ⟨Value, fun x_ => [Item.box (α := Vector Bool 8) 142 b2 r.2.1, Item.box (α := Raw) 27 b5 (Raw.mk x_), Item.sl (α := Int) 3 x_ r.2.2], fun _ => isV (α := Bool) r.1⟩ := by
  induction fuel with
  | zero => intro _ _ _ _ _ _ _ _ _ _ r h; cases h
  | succ fuel ih =>
    intro p0 c0 c1 c2 c3 c4 c5 b2 b5 v5 r h
    unfold M.f115 at h
    refine callF_of Try.func115 rfl Try.ntmps115 rfl fun F0 fr w0 w c0_ a hS => ?_
    refine ws ?_
    refine st_reg mixed (by kernel_rfl) hS ?_
    refine cg (sp_assign (odb)) ?_
    refine sn fun a w hS => ?_
    refine et ?_
    refine ws ?_
    refine ws ?_
    refine st_reg mixed (by kernel_rfl) hS ?_
    refine mv rfl ?_
    refine cg (sp_load ty3 (od rfl)) ?_
    refine cg (sp_eql (od rfl) (od rfl)) ?_
    refine sn fun a w hS => ?_
    refine et ?_
    refine st_cond hS rfl (fun hb => ?_) (fun hb => ?_)
    · have h := ite_t hb h
      refine ws ?_
      refine st_reg mixed (by kernel_rfl) hS ?_
      refine cg (sp_assign (odb)) ?_
      refine sn fun a w hS => ?_
      refine et ?_
      refine wp_ret ?_
      refine exit_thenR ?_
      have hS := st_front 2 hS rfl
      have hS := st_front 2 hS rfl
      have hS := st_front 2 hS rfl
      have hS : St _ F0 (Item.box (α := Vector Bool 8) 142 b2 c2 :: Item.box (α := Raw) 27 b5 (Raw.mk v5) :: Item.sl (α := Int) 3 v5 c5 :: fr) _ w0 _ _ := hS
      cases h
      exact st_retF (ρ := ⟨Value, fun x_ => [Item.box (α := Vector Bool 8) 142 b2 ((true, c2, c5).2.1), Item.box (α := Raw) 27 b5 (Raw.mk x_), Item.sl (α := Int) 3 x_ ((true, c2, c5).2.2)], fun _ => isV (α := Bool) ((true, c2, c5).1)⟩) v5 hS (run_results1 Try.results115 a w) rfl (hS.at_.sat 9 _ rfl)
    have h := ite_f hb h
    refine wp_skip ?_
    refine et ?_
    refine ws ?_
    refine ws ?_
    refine st_reg mixed (by kernel_rfl) hS ?_
    refine cg (sp_fieldAddr fd24_0 (od rfl)) ?_
    refine cg (sp_load ty3 (od rfl)) ?_
    refine cg (sp_move (odi)) ?_
    refine sn fun a w hS => ?_
    refine et ?_
    refine wp_block ?_
    obtain ⟨o_4, e_5, hr_6⟩ := bind_some h
    refine c_loop (fun K a w => ∃ k i_1 s_3, ∃ u_7 : Value, K = k + 1 ∧ ForI _ _ _ o_4 k i_1 s_3 ∧ St 72 F0 (Item.box (α := Vector Bool 8) 142 b2 s_3.1 :: Item.box (α := Raw) 27 b5 (Raw.mk u_7) :: Item.sl (α := Int) 3 u_7 s_3.2 :: fr) [(0, isV (α := Int) p0), (1, isA (α := Int) c0), (3, Pr.ptr b2), (4, isA (α := List (List Int)) c3), (5, isA (α := List (List Int)) c4), (6, Pr.ptr b5), (7, Pr.selfc 115 [isA (α := Int) c0, isA (α := S_api_Market) c1, Pr.ptr b2, isA (α := List (List Int)) c3, isA (α := List (List Int)) c4, Pr.ptr b5]), (15, isV (α := Int) c1.1), (16, isV (α := Int) i_1), (1000000, Pr.seen c0_)] w0 a w) ?_ ?_ ⟨_, _, _, v5, rfl, for_init e_5, hS.weak ⟨od rfl, od rfl, od rfl, od rfl, od rfl, od rfl, od rfl, od rfl, od rfl, od rfl, trivial⟩⟩
    · rintro a w ⟨_, _, _, _, hk, _⟩; cases hk
    rintro K a w ⟨k_4, i_1, s_3, u_7, hk, hF_4, hS⟩
    obtain rfl := Nat.succ.inj hk
    refine ws ?_
    refine st_reg mixed (by kernel_rfl) hS ?_
    refine cg (sp_lss (od rfl) (od rfl)) ?_
    refine sn fun a w hS => ?_
    refine et ?_
    refine ws ?_
    refine st_cond hS rfl (fun hb => ?_) (fun hb => ?_)
    · refine wp_skip ?_
      refine et ?_
      obtain ⟨k_4, o, rfl, h, hN_4, hL_4, hw_4⟩ := for_more hF_4 hb
      refine ws ?_
      refine wp_block ?_
      refine ws ?_
      refine st_reg mixed (by kernel_rfl) hS ?_
      refine mv rfl ?_
      refine cg (sp_assign (od rfl)) ?_
      refine sn fun a w hS => ?_
      refine et ?_
      refine ws ?_
      refine ws ?_
      have hS := st_box 0 3 hS rfl rfl
      obtain ⟨v_8, e_9, h⟩ := bind_some h
      obtain ⟨v_10, e_11, h⟩ := bind_some h
      obtain ⟨v_12, e_13, h⟩ := bind_some h
      obtain ⟨v_14, e_15, h⟩ := bind_some h
      obtain ⟨v_16, e_17, h⟩ := bind_some h
      obtain ⟨v_18, e_19, h⟩ := bind_some h
      obtain ⟨v_20, e_21, h⟩ := bind_some h
      obtain ⟨v_22, e_23, h⟩ := bind_some h
      obtain ⟨v_24, e_25, h⟩ := bind_some h
      refine st_reg mixed (by kernel_rfl) hS ?_
      refine mv rfl ?_
      refine cg (sp_indexAddrAB ar142 (odB rfl) (od rfl) e_9) ?_
      refine cg (sp_loadB ty4 (od rfl)) ?_
      refine mv rfl ?_
      refine sc (sgF rfl fun hG => sp_load ty112 (od rfl)) ?_
      refine sc (sgF rfl fun hG => sp_move (od rfl)) ?_
      refine sc (sgF rfl fun hG => sp_indexAddr sl112 (odw rfl hG) (odw rfl hG) (guard_some e_11 hG)) ?_
      refine sc (sgF rfl fun hG => sp_load ty27 (odw rfl hG)) ?_
      refine sc (sgF rfl fun hG => sp_move (od rfl)) ?_
      refine sc (sgF rfl fun hG => sp_indexAddr sl27 (odw rfl hG) (odw rfl hG) (guard_some e_13 hG)) ?_
      refine sc (sgF rfl fun hG => sp_load ty3 (odw rfl hG)) ?_
      refine sc (sgF rfl fun hG => sp_geq (odw rfl hG) (odi)) ?_
      refine cg (sp_pickOr (od rfl) fun hg => odw rfl (not_t hg)) ?_
      refine mv rfl ?_
      refine sc (sgF rfl fun hG => sp_load ty112 (od rfl)) ?_
      refine sc (sgF rfl fun hG => sp_move (od rfl)) ?_
      refine sc (sgF rfl fun hG => sp_indexAddr sl112 (odw rfl hG) (odw rfl hG) (guard_some e_15 hG)) ?_
      refine sc (sgF rfl fun hG => sp_load ty27 (odw rfl hG)) ?_
      refine sc (sgF rfl fun hG => sp_move (od rfl)) ?_
      refine sc (sgF rfl fun hG => sp_indexAddr sl27 (odw rfl hG) (odw rfl hG) (guard_some e_17 hG)) ?_
      refine sc (sgF rfl fun hG => sp_load ty3 (odw rfl hG)) ?_
      refine sc (sgF rfl fun hG => sp_load ty112 (od rfl)) ?_
      refine sc (sgF rfl fun hG => sp_move (od rfl)) ?_
      refine sc (sgF rfl fun hG => sp_indexAddr sl112 (odw rfl hG) (odw rfl hG) (guard_some e_19 hG)) ?_
      refine sc (sgF rfl fun hG => sp_load ty27 (odw rfl hG)) ?_
      refine sc (sgF rfl fun hG => sp_load ty3 (od rfl)) ?_
      refine sc (sgF rfl fun hG => sp_indexAddr sl27 (odw rfl hG) (odw rfl hG) (guard_some e_21 hG)) ?_
      refine sc (sgF rfl fun hG => sp_load ty3 (odw rfl hG)) ?_
      refine sc (sgF rfl fun hG => sp_add (odw rfl hG) (odw rfl hG)) ?_
      refine sc (sgF rfl fun hG => sp_load ty112 (od rfl)) ?_
      refine sc (sgF rfl fun hG => sp_move (od rfl)) ?_
      refine sc (sgF rfl fun hG => sp_indexAddr sl112 (odw rfl hG) (odw rfl hG) (guard_some e_23 hG)) ?_
      refine sc (sgF rfl fun hG => sp_load ty27 (odw rfl hG)) ?_
      refine sc (sgF rfl fun hG => sp_load ty3 (od rfl)) ?_
      refine sc (sgF rfl fun hG => sp_indexAddr sl27 (odw rfl hG) (odw rfl hG) (guard_some e_25 hG)) ?_
      refine sc (sgF rfl fun hG => sp_load ty3 (odw rfl hG)) ?_
      refine sc (sgF rfl fun hG => sp_neq (odw rfl hG) (odw rfl hG)) ?_
      refine cg (sp_pickOr (od rfl) fun hg => odw rfl (not_t hg)) ?_
      refine sn fun a w hS => ?_
      refine et ?_
      refine st_cond hS rfl (fun hb => ?_) (fun hb => ?_)
      · have h := ite_t hb h
        refine wp_exit ?_
        refine exit_thenE ?_
        refine exit_here ?_
        refine et ?_
        refine st_reg mixed (by kernel_rfl) hS ?_
        refine cg (sp_add (od rfl) (odi)) ?_
        refine mv rfl ?_
        refine sn fun a w hS => ?_
        cases h
        exact ⟨k_4, _, _, u_7, rfl, hN_4 _ rfl, hS.weak ⟨od rfl, od rfl, odBx rfl, od rfl, od rfl, od rfl, od rfl, od rfl, od (congrArg (fun z => some (isV (α := Int) z)) hw_4), od rfl, trivial⟩⟩
      have h := ite_f hb h
      refine wp_skip ?_
      refine et ?_
      refine ws ?_
      obtain ⟨z_26, e_27, h⟩ := bind_some h
      obtain ⟨v_29, e_30, h⟩ := bind_some h
      obtain ⟨z_31, e_32, h⟩ := bind_some h
      refine l_start ?_
      refine s_c hS (sg (sp_move (od rfl))) rfl fun a w hS hM => ?_
      have hS := st_box 1 6 hS rfl rfl
      refine s_c hS (sg (sp_loadRaw tyR27_w (odB rfl))) rfl fun a w hS hM => ?_
      refine s_c hS (sg (sp_move (od rfl))) rfl fun a w hS hM => ?_
      refine s_c hS (sg (sp_buildSlice [.tmp 59] ([i_1] : List Int) sl27 ze3 rfl rfl rfl rfl ⟨od rfl, trivial⟩)) rfl fun a w hS hM => ?_
      refine s_append (k := 2) (Δ := [(0, isV (α := Int) p0), (1, isA (α := Int) c0), (3, Pr.ptr b2), (4, isA (α := List (List Int)) c3), (5, isA (α := List (List Int)) c4), (6, Pr.ptr b5), (7, Pr.selfc 115 [isA (α := Int) c0, isA (α := S_api_Market) c1, Pr.ptr b2, isA (α := List (List Int)) c3, isA (α := List (List Int)) c4, Pr.ptr b5]), (10, isV (α := Int) i_1), (15, isV (α := Int) c1.1), (16, isV (α := Int) i_1), (57, isV (α := Int) i_1), (58, Pr.is u_7), (60, isV (α := List Int) ([i_1] : List Int)), (1000000, Pr.seen c0_)]) sl27 ze3 hS rfl ⟨od rfl, od rfl, odBx rfl, od rfl, od rfl, odBx rfl, od rfl, od rfl, od rfl, od rfl, od rfl, od rfl, od rfl, od rfl, trivial⟩ ⟨fun _ _ _ _ h => h, fun _ _ _ _ h => h, fun _ _ _ _ h => h, fun _ _ _ _ h => h, fun _ _ _ _ h => h, fun _ _ _ _ h => h, fun _ _ _ _ h => h, fun _ _ _ _ h => h, fun _ _ _ _ h => h, fun _ _ _ _ h => h, fun _ _ _ _ h => h, fun _ _ _ _ h => h, fun _ _ _ _ h => h, fun _ _ _ _ h => h, trivial⟩ (od rfl) (od rfl) e_27 rfl fun a w u_28 hS hM => ?_
      have hS : St _ F0 (Item.box (α := Vector Bool 8) 142 b2 s_3.1 :: Item.box (α := Raw) 27 b5 (Raw.mk u_7) :: Item.sl (α := Int) 3 u_28 z_26 :: fr) _ w0 _ _ := hS
      refine s_storeB (k := 1) (Δ := [(0, isV (α := Int) p0), (1, isA (α := Int) c0), (3, Pr.ptr b2), (4, isA (α := List (List Int)) c3), (5, isA (α := List (List Int)) c4), (6, Pr.ptr b5), (7, Pr.selfc 115 [isA (α := Int) c0, isA (α := S_api_Market) c1, Pr.ptr b2, isA (α := List (List Int)) c3, isA (α := List (List Int)) c4, Pr.ptr b5]), (10, isV (α := Int) i_1), (15, isV (α := Int) c1.1), (16, isV (α := Int) i_1), (57, isV (α := Int) i_1), (61, Pr.is u_28), (1000000, Pr.seen c0_)]) tyR27_w hS rfl ⟨od rfl, od rfl, od rfl, od rfl, od rfl, od rfl, od rfl, od rfl, od rfl, od rfl, od rfl, od rfl, od rfl, trivial⟩ ⟨fun _ _ _ _ h => h, fun _ _ _ _ h => h, fun _ _ _ _ h => h, fun _ _ _ _ h => h, fun _ _ _ _ h => h, fun _ _ _ _ h => h, fun _ _ _ _ h => h, fun _ _ _ _ h => h, fun _ _ _ _ h => h, fun _ _ _ _ h => h, fun _ _ _ _ h => h, fun _ _ _ _ h => h, fun _ _ _ _ h => h, trivial⟩ rfl (odRaw (od rfl) (hS.one (k := 2) rfl)) fun w hS hM => ?_
      have hS : St _ F0 (Item.box (α := Vector Bool 8) 142 b2 s_3.1 :: Item.box (α := Raw) 27 b5 (Raw.mk u_28) :: Item.sl (α := Int) 3 u_28 z_26 :: fr) _ w0 _ _ := hS
      refine s_c hS (sg (sp_indexAddrPI ar142 (od rfl) (od rfl) e_30)) rfl fun a w hS hM => ?_
      refine s_storeP (k := 0) (off := i_1.toNat * Enc.size Bool) (Δ := [(0, isV (α := Int) p0), (1, isA (α := Int) c0), (3, Pr.ptr b2), (4, isA (α := List (List Int)) c3), (5, isA (α := List (List Int)) c4), (6, Pr.ptr b5), (7, Pr.selfc 115 [isA (α := Int) c0, isA (α := S_api_Market) c1, Pr.ptr b2, isA (α := List (List Int)) c3, isA (α := List (List Int)) c4, Pr.ptr b5]), (10, isV (α := Int) i_1), (15, isV (α := Int) c1.1), (16, isV (α := Int) i_1), (62, Pr.is (.pointer (some ⟨b2, i_1.toNat * Enc.size Bool, none⟩))), (1000000, Pr.seen c0_)]) ty4 hS rfl ⟨od rfl, od rfl, od rfl, od rfl, od rfl, od rfl, od rfl, od rfl, od rfl, od rfl, od rfl, od rfl, trivial⟩ ⟨fun _ _ _ _ h => h, fun _ _ _ _ h => h, fun _ _ _ _ h => h, fun _ _ _ _ h => h, fun _ _ _ _ h => h, fun _ _ _ _ h => h, fun _ _ _ _ h => h, fun _ _ _ _ h => h, fun _ _ _ _ h => h, fun _ _ _ _ h => h, fun _ _ _ _ h => h, fun _ _ _ _ h => h, trivial⟩ (od rfl) (odb) (SetF.vec e_32) fun w hS hM => ?_
      have hS : St _ F0 (Item.box (α := Vector Bool 8) 142 b2 z_31 :: Item.box (α := Raw) 27 b5 (Raw.mk u_28) :: Item.sl (α := Int) 3 u_28 z_26 :: fr) _ w0 _ _ := hS
      refine l_end ?_
      refine et ?_
      refine ws ?_
      refine ws ?_
      obtain ⟨z_33, e_34, h⟩ := bind_some h
      refine l_start ?_
      refine s_c hS (sg (sp_loadSelf tyR121_w (od rfl))) rfl fun a w hS hM => ?_
      refine s_c hS (sg (sp_move (od rfl))) rfl fun a w hS hM => ?_
      have hS := st_front 2 hS rfl
      have hS := st_front 2 hS rfl
      have hS := st_front 2 hS rfl
      have hS : St _ F0 (Item.box (α := Vector Bool 8) 142 b2 z_31 :: Item.box (α := Raw) 27 b5 (Raw.mk u_28) :: Item.sl (α := Int) 3 u_28 z_26 :: fr) _ w0 _ _ := hS
      refine s_callF (φs := [isV (α := Int) i_1]) (κs := [isA (α := Int) c0, isA (α := S_api_Market) c1, Pr.ptr b2, isA (α := List (List Int)) c3, isA (α := List (List Int)) c4, Pr.ptr b5, Pr.selfc 115 [isA (α := Int) c0, isA (α := S_api_Market) c1, Pr.ptr b2, isA (α := List (List Int)) c3, isA (α := List (List Int)) c4, Pr.ptr b5]]) (js1 := [Item.box (α := Vector Bool 8) 142 b2 z_31, Item.box (α := Raw) 27 b5 (Raw.mk u_28), Item.sl (α := Int) 3 u_28 z_26]) (fr := fr) (Δ := [(0, isV (α := Int) p0), (1, isA (α := Int) c0), (3, Pr.ptr b2), (4, isA (α := List (List Int)) c3), (5, isA (α := List (List Int)) c4), (6, Pr.ptr b5), (7, Pr.selfc 115 [isA (α := Int) c0, isA (α := S_api_Market) c1, Pr.ptr b2, isA (α := List (List Int)) c3, isA (α := List (List Int)) c4, Pr.ptr b5]), (15, isV (α := Int) c1.1), (16, isV (α := Int) i_1), (63, Pr.clo 115 [isA (α := Int) c0, isA (α := S_api_Market) c1, Pr.ptr b2, isA (α := List (List Int)) c3, isA (α := List (List Int)) c4, Pr.ptr b5, Pr.selfc 115 [isA (α := Int) c0, isA (α := S_api_Market) c1, Pr.ptr b2, isA (α := List (List Int)) c3, isA (α := List (List Int)) c4, Pr.ptr b5]]), (64, isV (α := Int) i_1), (1000000, Pr.seen c0_)]) en115 (ih e_34) hS ⟨od rfl, od rfl, od rfl, od rfl, od rfl, od rfl, od rfl, od rfl, od rfl, od rfl, od rfl, od rfl, trivial⟩ ⟨fun _ _ _ _ h => h, fun _ _ _ _ h => h, fun _ _ _ _ h => h, fun _ _ _ _ h => h, fun _ _ _ _ h => h, fun _ _ _ _ h => h, fun _ _ _ _ h => h, fun _ _ _ _ h => h, fun _ _ _ _ h => h, fun _ _ _ _ h => h, fun _ _ _ _ h => h, fun _ _ _ _ h => h, trivial⟩ (od rfl) ⟨od rfl, trivial⟩ rfl fun a w x_35 hS hM => ?_
      have hS : St _ F0 (Item.box (α := Vector Bool 8) 142 b2 z_33.2.1 :: Item.box (α := Raw) 27 b5 (Raw.mk x_35) :: Item.sl (α := Int) 3 x_35 z_33.2.2 :: fr) _ w0 _ _ := hS
      refine l_end ?_
      refine et ?_
      refine st_cond hS rfl (fun hb => ?_) (fun hb => ?_)
      · have h := ite_t hb h
        refine ws ?_
        refine st_reg mixed (by kernel_rfl) hS ?_
        refine cg (sp_assign (odb)) ?_
        refine sn fun a w hS => ?_
        refine et ?_
        refine wp_ret ?_
        refine exit_thenR ?_
        refine exit_blockR ?_
        refine exit_thenR ?_
        cases h
        obtain rfl := hL_4 _ rfl
        have h := (elim_leave hr_6)
        refine exit_thenR ?_
        refine exit_blockR ?_
        refine exit_thenR ?_
        have hS := st_front 2 hS rfl
        have hS := st_front 2 hS rfl
        have hS := st_front 2 hS rfl
        have hS : St _ F0 (Item.box (α := Vector Bool 8) 142 b2 z_33.2.1 :: Item.box (α := Raw) 27 b5 (Raw.mk x_35) :: Item.sl (α := Int) 3 x_35 z_33.2.2 :: fr) _ w0 _ _ := hS
        cases h
        exact st_retF (ρ := ⟨Value, fun x_ => [Item.box (α := Vector Bool 8) 142 b2 ((true, z_33.2.1, z_33.2.2).2.1), Item.box (α := Raw) 27 b5 (Raw.mk x_), Item.sl (α := Int) 3 x_ ((true, z_33.2.1, z_33.2.2).2.2)], fun _ => isV (α := Bool) ((true, z_33.2.1, z_33.2.2).1)⟩) x_35 hS (run_results1 Try.results115 a w) rfl (hS.at_.sat 9 _ rfl)
      have h := ite_f hb h
      refine wp_skip ?_
      refine et ?_
      obtain ⟨z_36, e_37, h⟩ := bind_some h
      refine l_start ?_
      have hS := st_box 1 6 hS rfl rfl
      refine s_c hS (sg (sp_loadRaw tyR27_w (odB rfl))) rfl fun a w hS hM => ?_
      refine s_c hS (sg (sp_loadRaw tyR27_w (odB rfl))) rfl fun a w hS hM => ?_
      have hS := st_os 2 66 hS rfl rfl
      have hS := st_os 2 67 hS rfl rfl
      refine s_c hS (sg (sp_lenOS Try.underlying27 (od rfl))) rfl fun a w hS hM => ?_
      refine s_c hS (sg (sp_sub (od rfl) (odi))) rfl fun a w hS hM => ?_
      refine s_c hS (sg (sp_cut sl27 (odOS rfl) (od rfl) (hS.cutOK (k := 2) rfl e_37))) rfl fun a w hS hM => ?_
      have hS := st_cut 2 hS rfl e_37
      have hS : St _ F0 (Item.box (α := Vector Bool 8) 142 b2 z_33.2.1 :: Item.box (α := Raw) 27 b5 (Raw.mk x_35) :: Item.sl (α := Int) 3 (cutV x_35 (wr ((z_33.2.2.length : Int) - 1))) z_36 :: fr) _ w0 _ _ := hS
      refine s_storeB (k := 1) (Δ := [(0, isV (α := Int) p0), (1, isA (α := Int) c0), (3, Pr.ptr b2), (4, isA (α := List (List Int)) c3), (5, isA (α := List (List Int)) c4), (6, Pr.ptr b5), (7, Pr.selfc 115 [isA (α := Int) c0, isA (α := S_api_Market) c1, Pr.ptr b2, isA (α := List (List Int)) c3, isA (α := List (List Int)) c4, Pr.ptr b5]), (15, isV (α := Int) c1.1), (16, isV (α := Int) i_1), (70, Pr.is (cutV x_35 (wr ((z_33.2.2.length : Int) - 1)))), (1000000, Pr.seen c0_)]) tyR27_w hS rfl ⟨od rfl, od rfl, od rfl, od rfl, od rfl, odBx rfl, od rfl, od rfl, od rfl, od rfl, od rfl, trivial⟩ ⟨fun _ _ _ _ h => h, fun _ _ _ _ h => h, fun _ _ _ _ h => h, fun _ _ _ _ h => h, fun _ _ _ _ h => h, fun _ _ _ _ h => h, fun _ _ _ _ h => h, fun _ _ _ _ h => h, fun _ _ _ _ h => h, fun _ _ _ _ h => h, fun _ _ _ _ h => h, trivial⟩ rfl (odRaw (od rfl) (hS.one (k := 2) rfl)) fun w hS hM => ?_
      have hS : St _ F0 (Item.box (α := Vector Bool 8) 142 b2 z_33.2.1 :: Item.box (α := Raw) 27 b5 (Raw.mk (cutV x_35 (wr ((z_33.2.2.length : Int) - 1)))) :: Item.sl (α := Int) 3 (cutV x_35 (wr ((z_33.2.2.length : Int) - 1))) z_36 :: fr) _ w0 _ _ := hS
      refine l_end ?_
      refine exit_block ?_
      refine et ?_
      refine st_reg mixed (by kernel_rfl) hS ?_
      refine cg (sp_add (od rfl) (odi)) ?_
      refine mv rfl ?_
      refine sn fun a w hS => ?_
      cases h
      exact ⟨k_4, _, _, (cutV x_35 (wr ((z_33.2.2.length : Int) - 1))), rfl, hN_4 _ rfl, hS.weak ⟨od rfl, od rfl, od rfl, od rfl, od rfl, od rfl, od rfl, od rfl, od (congrArg (fun z => some (isV (α := Int) z)) hw_4), od rfl, trivial⟩⟩
    refine wp_exit ?_
    obtain rfl := for_done hF_4 hb
    have h := elim_again hr_6
    refine exit_thenE ?_
    refine exit_thenE ?_
    refine exit_here ?_
    refine et ?_
    refine ws ?_
    refine st_reg mixed (by kernel_rfl) hS ?_
    refine cg (sp_assign (odb)) ?_
    refine sn fun a w hS => ?_
    refine et ?_
    refine wp_ret ?_
    have hS := st_front 2 hS rfl
    have hS := st_front 2 hS rfl
    have hS := st_front 2 hS rfl
    have hS : St _ F0 (Item.box (α := Vector Bool 8) 142 b2 s_3.1 :: Item.box (α := Raw) 27 b5 (Raw.mk u_7) :: Item.sl (α := Int) 3 u_7 s_3.2 :: fr) _ w0 _ _ := hS
    cases h
    exact st_retF (ρ := ⟨Value, fun x_ => [Item.box (α := Vector Bool 8) 142 b2 ((false, s_3.1, s_3.2).2.1), Item.box (α := Raw) 27 b5 (Raw.mk x_), Item.sl (α := Int) 3 x_ ((false, s_3.1, s_3.2).2.2)], fun _ => isV (α := Bool) ((false, s_3.1, s_3.2).1)⟩) u_7 hS (run_results1 Try.results115 a w) rfl (hS.at_.sat 9 _ rfl)

theorem f66_ok {fuel : Nat} {p0 : S_api_Market} {p1 : List Int} {p2 : Int} {p3 : Int} {r : (List Int) × Int} (h : M.f66 fuel p0 p1 p2 p3 = some r) : CallOK Try.prog 66 [isV p0, isV p1, isV p2, isV p3] (isTup [isV r.1, isV r.2]) := by
  unfold M.f66 at h
  refine callS_of Try.func66 rfl Try.ntmps66 rfl fun F0 w0 a hS => ?_
  refine ws ?_
  refine st_reg mixed (by kernel_rfl) hS ?_
  refine cg (sp_box (od rfl)) ?_
  refine cg (sp_box (od rfl)) ?_
  refine cg (sp_assign (odnil (α := Int))) ?_
  refine cg (sp_assign (odi)) ?_
  refine sn fun a w hS => ?_
  refine et ?_
  refine ws ?_
  refine ws ?_
  obtain ⟨v_1, e_2, h⟩ := bind_some h
  refine st_reg mixed (by kernel_rfl) hS ?_
  refine cg (sp_load ty24 (od rfl)) ?_
  refine mv rfl ?_
  refine mv rfl ?_
  refine cg (sp_load ty3 (od rfl)) ?_
  refine cg (sp_buildSlice [.tmp 18, .tmp 19] ([p2, p3] : List Int) sl27 ze3 rfl rfl rfl rfl ⟨od rfl, od rfl, trivial⟩) ?_
  refine cg (bd106_0 (od rfl)) ?_
  refine cg (sp_call en76 (f76_ok e_2) ⟨od rfl, od rfl, od rfl, trivial⟩) ?_
  refine cg (sp_assign (od rfl)) ?_
  refine sn fun a w hS => ?_
  refine et ?_
  refine ws ?_
  refine st_reg mixed (by kernel_rfl) hS ?_
  refine mv rfl ?_
  refine cg (sp_neq (od rfl) (odi)) ?_
  refine sn fun a w hS => ?_
  refine et ?_
  refine st_cond hS rfl (fun hb => ?_) (fun hb => ?_)
  · have h := ite_t hb h
    refine ws ?_
    refine st_reg mixed (by kernel_rfl) hS ?_
    refine mv rfl ?_
    refine cg (sp_assign (odnil (α := Int))) ?_
    refine cg (sp_assign (od rfl)) ?_
    refine sn fun a w hS => ?_
    refine et ?_
    refine wp_ret ?_
    refine exit_thenR ?_
    cases h
    exact st_ret hS (run_results2 Try.results66 a w) (⟨_, rfl, hS.get rfl, hS.get rfl, trivial⟩)
  have h := ite_f hb h
  refine wp_skip ?_
  refine et ?_
  refine ws ?_
  obtain ⟨v_3, e_4, h⟩ := bind_some h
  obtain ⟨v_5, e_6, h⟩ := bind_some h
  obtain ⟨v_7, e_8, h⟩ := bind_some h
  obtain ⟨v_9, e_10, h⟩ := bind_some h
  have hS := hS.weak (Δ := [(0, isV (α := S_api_Market) p0), (1, isV (α := List Int) p1), (2, isV (α := Int) p2), (3, isV (α := Int) p3), (4, isA (α := S_api_Market) p0), (7, isA (α := Int) p3), (8, isV (α := List Int) ([] : List Int)), (9, isV (α := Int) 0), (10, isV (α := Int) v_1), (16, isV (α := S_api_Market) p0), (17, isV (α := List Int) p1), (18, isV (α := Int) p2), (19, isV (α := Int) p3), (20, isV (α := List Int) ([p2, p3] : List Int)), (21, isV (α := S_keeper_numbers) ((([p2, p3] : List Int), []) : S_keeper_numbers)), (22, isV (α := Int) v_1), (23, isV (α := Int) v_1), (24, isV (α := Bool) (v_1 != 0))]) ⟨od rfl, od rfl, od rfl, od rfl, od rfl, od rfl, od rfl, od rfl, od rfl, od rfl, od rfl, od rfl, od rfl, od rfl, od rfl, od rfl, od rfl, od rfl, trivial⟩
  refine st_pairs mixed [0, 0, 0, 0, 0, 0, 0, 0, 3, 3, 4, 4] [⟨8, 10, 11, 112, List (List Int), inferInstance, ([] : List (List Int)), v_5⟩, ⟨9, 11, 12, 112, List (List Int), inferInstance, ([] : List (List Int)), v_9⟩] (by kernel_rfl) (by kernel_rfl) hS ⟨fun _ _ _ _ h => h, fun _ _ _ _ h => h, fun _ _ _ _ h => h, fun _ _ _ _ h => h, fun _ _ _ _ h => h, fun _ _ _ _ h => h, fun _ _ _ _ h => h, fun _ _ _ _ h => h, fun _ _ _ _ h => h, fun _ _ _ _ h => h, fun _ _ _ _ h => h, fun _ _ _ _ h => h, fun _ _ _ _ h => h, fun _ _ _ _ h => h, fun _ _ _ _ h => h, fun _ _ _ _ h => h, fun _ _ _ _ h => h, fun _ _ _ _ h => h, trivial⟩ ?_
  refine sq0 (fun _ _ _ _ h => h) (sg (sp_load ty24 (od rfl))) ?_
  refine sq0 (fun _ _ _ _ h => h) (sg (sp_move (od rfl))) ?_
  refine sq0 (fun _ _ _ _ h => h) (sg (sp_call en92 (f92_ok e_4) ⟨od rfl, trivial⟩)) ?_
  refine sq0 (fun _ _ _ _ h => h) (sg (sp_call en83 (f83_ok e_6) ⟨od rfl, od rfl, trivial⟩)) ?_
  refine sq0 (fun _ _ _ _ h => h) (sg (sp_load ty24 (od rfl))) ?_
  refine sq0 (fun _ _ _ _ h => h) (sg (sp_move (od rfl))) ?_
  refine sq0 (fun _ _ _ _ h => h) (sg (sp_call en92 (f92_ok e_8) ⟨od rfl, trivial⟩)) ?_
  refine sq0 (fun _ _ _ _ h => h) (sg (sp_call en113 (callOK_tab (f113_ok e_10)) ⟨od rfl, od rfl, trivial⟩)) ?_
  refine sqA 0 rfl zi112 ?_
  refine sqA 1 rfl zi112 ?_
  refine sqS 0 rfl ty112 (od rfl) ?_
  refine sqS 1 rfl ty112 (od rfl) ?_
  refine sqN fun a w bs hl hS => ?_
  obtain ⟨b_11, b_12, rfl⟩ := len2 hl
  have hS : St _ F0 [Item.box (α := List (List Int)) 112 b_11 (v_5 : List (List Int)), Item.box (α := List (List Int)) 112 b_12 (v_9 : List (List Int))] ((11, Pr.ptr b_11) :: (12, Pr.ptr b_12) :: _) w0 _ _ := hS
  have hS := st_freezeB 0 11 hS rfl rfl
  have hS := st_freezeB 0 12 hS rfl rfl
  refine et ?_
  refine ws ?_
  refine ws ?_
  obtain ⟨v_13, e_14, h⟩ := bind_some h
  obtain ⟨v_15, e_16, h⟩ := bind_some h
  refine st_reg mixed (by kernel_rfl) hS ?_
  refine cg (sp_load ty112 (od rfl)) ?_
  refine mv rfl ?_
  refine cg (sp_indexAddr sl112 (od rfl) (od rfl) e_14) ?_
  refine cg (sp_load ty27 (od rfl)) ?_
  refine cg (sp_load ty3 (od rfl)) ?_
  refine cg (sp_indexAddr sl27 (od rfl) (od rfl) e_16) ?_
  refine cg (sp_load ty3 (od rfl)) ?_
  refine cg (sp_geq (od rfl) (odi)) ?_
  refine sn fun a w hS => ?_
  refine et ?_
  refine st_cond hS rfl (fun hb => ?_) (fun hb => ?_)
  · have h := ite_t hb h
    refine ws ?_
    refine st_reg mixed (by kernel_rfl) hS ?_
    refine cg (sp_assign (odnil (α := Int))) ?_
    refine cg (sp_assign (odi)) ?_
    refine sn fun a w hS => ?_
    refine et ?_
    refine wp_ret ?_
    refine exit_thenR ?_
    cases h
    exact st_ret hS (run_results2 Try.results66 a w) (⟨_, rfl, hS.get rfl, hS.get rfl, trivial⟩)
  have h := ite_f hb h
  refine wp_skip ?_
  refine et ?_
  refine ws ?_
  refine l_start ?_
  refine s_c hS (sg (sp_move (od rfl))) rfl fun a w hS hM => ?_
  refine s_build [.tmp 42] ([p2] : List Int) sl27 ze3 rfl rfl rfl rfl hS ⟨od rfl, trivial⟩ rfl fun a w u_17 hS hM => ?_
  have hS : St _ F0 [Item.sl (α := Int) 3 u_17 ([p2] : List Int)] _ w0 _ _ := hS
  refine s_c hS (sg (bz142)) rfl fun a w hS hM => ?_
  refine s_alloc ziR27_w hS rfl fun a w b_18 hS hM => ?_
  have hS : St _ F0 [Item.sl (α := Int) 3 u_17 ([p2] : List Int), Item.box (α := Raw) 27 b_18 (Raw.mk (.slice none 0 0))] _ w0 _ _ := hS
  have hS := st_nil (α := Int) 3 hS
  have hS : St _ F0 [Item.sl (α := Int) 3 u_17 ([p2] : List Int), Item.box (α := Raw) 27 b_18 (Raw.mk (.slice none 0 0)), Item.sl (α := Int) 3 (.slice none 0 0) ([] : List Int)] _ w0 _ _ := hS
  refine s_alloc zi142 hS rfl fun a w b_19 hS hM => ?_
  have hS : St _ F0 [Item.sl (α := Int) 3 u_17 ([p2] : List Int), Item.box (α := Raw) 27 b_18 (Raw.mk (.slice none 0 0)), Item.sl (α := Int) 3 (.slice none 0 0) ([] : List Int), Item.box (α := Vector Bool 8) 142 b_19 (#v[false, false, false, false, false, false, false, false] : Vector Bool 8)] _ w0 _ _ := hS
  refine s_storeB (k := 1) (Δ := [(2, isV (α := Int) p2), (4, isA (α := S_api_Market) p0), (7, isA (α := Int) p3), (11, isA (α := List (List Int)) (v_5 : List (List Int))), (12, isA (α := List (List Int)) (v_9 : List (List Int))), (13, Pr.ptr b_18), (14, Pr.ptr b_19), (43, Pr.is u_17), (44, isV (α := Vector Bool 8) (#v[false, false, false, false, false, false, false, false] : Vector Bool 8))]) tyR27_w hS rfl ⟨od rfl, od rfl, od rfl, od rfl, od rfl, od rfl, od rfl, od rfl, od rfl, trivial⟩ ⟨fun _ _ _ _ h => h, fun _ _ _ _ h => h, fun _ _ _ _ h => h, fun _ _ _ _ h => h, fun _ _ _ _ h => h, fun _ _ _ _ h => h, fun _ _ _ _ h => h, fun _ _ _ _ h => h, fun _ _ _ _ h => h, trivial⟩ rfl (odRaw (od rfl) (hS.one (k := 0) rfl)) fun w hS hM => ?_
  have hS : St _ F0 [Item.sl (α := Int) 3 u_17 ([p2] : List Int), Item.box (α := Raw) 27 b_18 (Raw.mk u_17), Item.sl (α := Int) 3 (.slice none 0 0) ([] : List Int), Item.box (α := Vector Bool 8) 142 b_19 (#v[false, false, false, false, false, false, false, false] : Vector Bool 8)] _ w0 _ _ := hS
  refine s_storeB (k := 3) (Δ := [(2, isV (α := Int) p2), (4, isA (α := S_api_Market) p0), (7, isA (α := Int) p3), (11, isA (α := List (List Int)) (v_5 : List (List Int))), (12, isA (α := List (List Int)) (v_9 : List (List Int))), (13, Pr.ptr b_18), (14, Pr.ptr b_19), (44, isV (α := Vector Bool 8) (#v[false, false, false, false, false, false, false, false] : Vector Bool 8))]) ty142 hS rfl ⟨od rfl, od rfl, od rfl, od rfl, od rfl, od rfl, od rfl, od rfl, trivial⟩ ⟨fun _ _ _ _ h => h, fun _ _ _ _ h => h, fun _ _ _ _ h => h, fun _ _ _ _ h => h, fun _ _ _ _ h => h, fun _ _ _ _ h => h, fun _ _ _ _ h => h, fun _ _ _ _ h => h, trivial⟩ rfl (od rfl) fun w hS hM => ?_
  have hS : St _ F0 [Item.sl (α := Int) 3 u_17 ([p2] : List Int), Item.box (α := Raw) 27 b_18 (Raw.mk u_17), Item.sl (α := Int) 3 (.slice none 0 0) ([] : List Int), Item.box (α := Vector Bool 8) 142 b_19 (#v[false, false, false, false, false, false, false, false] : Vector Bool 8)] _ w0 _ _ := hS
  refine l_end ?_
  refine et ?_
  refine ws ?_
  obtain ⟨v_20, e_21, h⟩ := bind_some h
  obtain ⟨z_22, e_23, h⟩ := bind_some h
  have hS := st_drop 2 hS
  refine l_start ?_
  refine s_c hS (sg (sp_move (od rfl))) rfl fun a w hS hM => ?_
  refine s_c hS (sg (sp_indexAddrPI ar142 (od rfl) (od rfl) e_21)) rfl fun a w hS hM => ?_
  refine s_storeP (k := 2) (off := p2.toNat * Enc.size Bool) (Δ := [(2, isV (α := Int) p2), (4, isA (α := S_api_Market) p0), (7, isA (α := Int) p3), (11, isA (α := List (List Int)) (v_5 : List (List Int))), (12, isA (α := List (List Int)) (v_9 : List (List Int))), (13, Pr.ptr b_18), (14, Pr.ptr b_19), (46, Pr.is (.pointer (some ⟨b_19, p2.toNat * Enc.size Bool, none⟩)))]) ty4 hS rfl ⟨od rfl, od rfl, od rfl, od rfl, od rfl, od rfl, od rfl, od rfl, trivial⟩ ⟨fun _ _ _ _ h => h, fun _ _ _ _ h => h, fun _ _ _ _ h => h, fun _ _ _ _ h => h, fun _ _ _ _ h => h, fun _ _ _ _ h => h, fun _ _ _ _ h => h, fun _ _ _ _ h => h, trivial⟩ (od rfl) (odb) (SetF.vec e_23) fun w hS hM => ?_
  have hS : St _ F0 [Item.sl (α := Int) 3 u_17 ([p2] : List Int), Item.box (α := Raw) 27 b_18 (Raw.mk u_17), Item.box (α := Vector Bool 8) 142 b_19 z_22] _ w0 _ _ := hS
  refine l_end ?_
  refine et ?_
  refine ws ?_
  refine l_start ?_
  refine s_alloc ziR121_w hS rfl fun a w b_24 hS hM => ?_
  have hS : St _ F0 [Item.sl (α := Int) 3 u_17 ([p2] : List Int), Item.box (α := Raw) 27 b_18 (Raw.mk u_17), Item.box (α := Vector Bool 8) 142 b_19 z_22, Item.box (α := Raw) 121 b_24 (Raw.mk .nilFunc)] _ w0 _ _ := hS
  refine l_end ?_
  refine et ?_
  refine ws ?_
  refine l_start ?_
  refine s_c hS (sg (sp_makeSelf (κs := [isA (α := Int) p3, isA (α := S_api_Market) p0, Pr.ptr b_19, isA (α := List (List Int)) (v_9 : List (List Int)), isA (α := List (List Int)) (v_5 : List (List Int)), Pr.ptr b_18]) (xs := [.tmp 7, .tmp 4, .tmp 14, .tmp 12, .tmp 11, .tmp 13]) (p := .tmp 15) ⟨fun _ _ _ _ h => h, fun _ _ _ _ h => h, fun _ _ _ _ h => h, fun _ _ _ _ h => h, fun _ _ _ _ h => h, fun _ _ _ _ h => h, trivial⟩ ⟨od rfl, od rfl, (od rfl), od rfl, od rfl, (od rfl), trivial⟩ (od rfl))) rfl fun a w hS hM => ?_
  refine s_storeSelf (k := 3) (Δ := [(2, isV (α := Int) p2), (13, Pr.ptr b_18), (15, Pr.ptr b_24)]) tyR121_w hS rfl ⟨od rfl, od rfl, od rfl, trivial⟩ ⟨fun _ _ _ _ h => h, fun _ _ _ _ h => h, fun _ _ _ _ h => h, trivial⟩ rfl (od rfl) fun w hS => ?_
  have hS : St _ F0 [Item.sl (α := Int) 3 u_17 ([p2] : List Int), Item.box (α := Raw) 27 b_18 (Raw.mk u_17), Item.box (α := Vector Bool 8) 142 b_19 z_22] _ w0 _ _ := hS
  refine l_end ?_
  refine et ?_
  refine ws ?_
  obtain ⟨z_25, e_26, h⟩ := bind_some h
  refine l_start ?_
  refine s_c hS (sg (sp_loadSelf tyR121_w (od rfl))) rfl fun a w hS hM => ?_
  refine s_c hS (sg (sp_move (od rfl))) rfl fun a w hS hM => ?_
  have hS := st_front 1 hS rfl
  have hS := st_front 2 hS rfl
  have hS : St _ F0 [Item.box (α := Vector Bool 8) 142 b_19 z_22, Item.box (α := Raw) 27 b_18 (Raw.mk u_17), Item.sl (α := Int) 3 u_17 ([p2] : List Int)] _ w0 _ _ := hS
  refine s_callF (φs := [isV (α := Int) p2]) (κs := [isA (α := Int) p3, isA (α := S_api_Market) p0, Pr.ptr b_19, isA (α := List (List Int)) (v_9 : List (List Int)), isA (α := List (List Int)) (v_5 : List (List Int)), Pr.ptr b_18, Pr.selfc 115 [isA (α := Int) p3, isA (α := S_api_Market) p0, Pr.ptr b_19, isA (α := List (List Int)) (v_9 : List (List Int)), isA (α := List (List Int)) (v_5 : List (List Int)), Pr.ptr b_18]]) (js1 := [Item.box (α := Vector Bool 8) 142 b_19 z_22, Item.box (α := Raw) 27 b_18 (Raw.mk u_17), Item.sl (α := Int) 3 u_17 ([p2] : List Int)]) (fr := []) (Δ := [(13, Pr.ptr b_18), (48, Pr.clo 115 [isA (α := Int) p3, isA (α := S_api_Market) p0, Pr.ptr b_19, isA (α := List (List Int)) (v_9 : List (List Int)), isA (α := List (List Int)) (v_5 : List (List Int)), Pr.ptr b_18, Pr.selfc 115 [isA (α := Int) p3, isA (α := S_api_Market) p0, Pr.ptr b_19, isA (α := List (List Int)) (v_9 : List (List Int)), isA (α := List (List Int)) (v_5 : List (List Int)), Pr.ptr b_18]]), (49, isV (α := Int) p2)]) en115 (f115_ok e_26) hS ⟨od rfl, od rfl, od rfl, trivial⟩ ⟨fun _ _ _ _ h => h, fun _ _ _ _ h => h, fun _ _ _ _ h => h, trivial⟩ (od rfl) ⟨od rfl, trivial⟩ rfl fun a w x_27 hS hM => ?_
  have hS : St _ F0 [Item.box (α := Vector Bool 8) 142 b_19 z_25.2.1, Item.box (α := Raw) 27 b_18 (Raw.mk x_27), Item.sl (α := Int) 3 x_27 z_25.2.2] _ w0 _ _ := hS
  refine l_end ?_
  refine et ?_
  refine ws ?_
  have hS := st_box 1 13 hS rfl rfl
  have hS := st_drop 0 hS
  refine st_reg mixed (by kernel_rfl) hS ?_
  refine cg (sp_loadRaw tyR27_w (odB rfl)) ?_
  refine cg (sp_assign (od rfl)) ?_
  refine cg (sp_assign (odi)) ?_
  refine sn fun a w hS => ?_
  refine et ?_
  refine wp_ret ?_
  have hS := st_drop 0 hS
  have hS0 := hS
  have hS := st_freeze 0 8 hS rfl rfl
  have hS := st_also (t := 8) (q := 51) hS0 hS rfl rfl rfl
  cases h
  exact st_ret hS (run_results2 Try.results66 a w) (⟨_, rfl, hS.get rfl, hS.get rfl, trivial⟩)

end Go.Proofs.Ytkbilbeaedocjaa
