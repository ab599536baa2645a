/-
  What is proved: each Go function named here returns what its model tells, and changes nothing that was there; where the model tells something.
-/
import Derived.Test.YtnnhmgcigoiceaaGreatDoorTypes
import Derived.Test.YtnnhmgcigoiceaaGreatDoorGivenT
import Derived.Test.YtnnhmgcigoiceaaGreatDoorModelA
set_option linter.unusedVariables false
set_option maxRecDepth 100000
namespace Go.Proofs.YtnnhmgcigoiceaaGreatDoor
open Go Go.RowKit Go.Proofs.YtnnhmgcigoiceaaGreatDoor.Wh

theorem f54_ok {p0 : Int} {p1 : Int} {p2 : Int} {r : Bool} (h : M.f54 p0 p1 p2 = some r) : CallOK Tryz.prog 54 [isV p0, isV p1, isV p2] (isV r) := by
  unfold M.f54 at h
  refine callS_of Tryz.func54 rfl Tryz.ntmps54 rfl fun F0 w0 a hS => ?_
  refine ws ?_
  refine st_reg mixed (by kernel_rfl) hS ?_
  refine cg (sp_assign (odb)) ?_
  refine sn fun a w hS => ?_
  refine et ?_
  refine ws ?_
  refine st_reg mixed (by kernel_rfl) hS ?_
  refine mv rfl ?_
  refine mv rfl ?_
  refine cg (sp_geq (od rfl) (od rfl)) ?_
  refine mv rfl ?_
  refine sc (sgT rfl fun hG => sp_move (od rfl)) ?_
  refine sc (sgT rfl fun hG => sp_move (od rfl)) ?_
  refine sc (sgT rfl fun hG => sp_leq (odw rfl hG) (odw rfl hG)) ?_
  refine cg (sp_pickAnd (od rfl) fun hg => odw rfl hg) ?_
  refine cg (sp_assign (od rfl)) ?_
  refine sn fun a w hS => ?_
  refine et ?_
  refine wp_ret ?_
  cases h
  exact st_ret hS (run_results1 Tryz.results54 a w) (hS.get rfl)

theorem f68_ok {p0 : List (List Int)} {r : (Vector (Vector Int 8) 8)} (h : M.f68 p0 = some r) : CallOK Tryz.prog 68 [isV p0] (isV r) := by
  unfold M.f68 at h
  refine callS_of Tryz.func68 rfl Tryz.ntmps68 rfl fun F0 w0 a hS => ?_
  refine ws ?_
  refine l_start ?_
  refine s_alloc zi93 hS rfl fun a w b_1 hS hM => ?_
  have hS : St _ F0 [Item.box (α := Vector (Vector Int 8) 8) 93 b_1 ((Vector.replicate 8 (#v[0, 0, 0, 0, 0, 0, 0, 0] : Vector Int 8)) : Vector (Vector Int 8) 8)] _ w0 _ _ := hS
  refine l_end ?_
  refine et ?_
  refine ws ?_
  refine ws ?_
  refine st_reg mixed (by kernel_rfl) hS ?_
  refine mv rfl ?_
  refine cg (sp_len Tryz.underlying31 (od rfl)) ?_
  refine cg (sp_move (odi)) ?_
  refine sn fun a w hS => ?_
  refine et ?_
  refine wp_block ?_
  obtain ⟨o_5, e_6, hr_7⟩ := bind_some h
  refine c_loop (fun K a w => ∃ k i_2 s_4, K = k + 1 ∧ ForT _ _ _ o_5 k i_2 s_4 ∧ St 19 F0 [Item.box (α := Vector (Vector Int 8) 8) 93 b_1 s_4] [(0, isV (α := List (List Int)) p0), (2, Pr.ptr b_1), (5, isV (α := Int) (p0.length : Int)), (6, isV (α := Int) i_2)] w0 a w) ?_ ?_ ⟨_, _, _, rfl, fors_init e_6, hS.weak ⟨od rfl, od rfl, od rfl, od rfl, trivial⟩⟩
  · rintro a w ⟨_, _, _, hk, _⟩; cases hk
  rintro K a w ⟨k_5, i_2, s_4, hk, hF_5, hS⟩
  obtain rfl := Nat.succ.inj hk
  refine ws ?_
  refine st_reg mixed (by kernel_rfl) hS ?_
  refine cg (sp_lss (od rfl) (od rfl)) ?_
  refine sn fun a w hS => ?_
  refine et ?_
  refine ws ?_
  refine st_cond hS rfl (fun hb => ?_) (fun hb => ?_)
  · refine wp_skip ?_
    refine et ?_
    obtain ⟨k_5, s', rfl, h, hF_5, hw_5⟩ := fors_more hF_5 hb
    refine ws ?_
    refine wp_block ?_
    refine ws ?_
    refine st_reg mixed (by kernel_rfl) hS ?_
    refine mv rfl ?_
    refine cg (sp_assign (od rfl)) ?_
    refine sn fun a w hS => ?_
    refine et ?_
    obtain ⟨v_8, e_9, h⟩ := bind_some h
    obtain ⟨v_10, e_11, h⟩ := bind_some h
    obtain ⟨z_12, e_13, h⟩ := bind_some h
    refine st_float mixed [0, 0, 0, 0, 0, 0, 0, 2] (by kernel_rfl) (by kernel_rfl) hS ?_
    refine sfA (sg (sp_move (od rfl))) ?_
    refine sfA (sg (sp_indexAddrPI ar93 (od rfl) (od rfl) e_9)) ?_
    refine sfA (sg (sp_sliceAll ar91 rfl (od rfl))) ?_
    refine sfA (sg (sp_move (od rfl))) ?_
    refine sfA (sg (sp_move (od rfl))) ?_
    refine sfA (sg (sp_indexAddr sl31 (od rfl) (od rfl) e_11)) ?_
    refine sfA (sg (sp_load ty39 (od rfl))) ?_
    refine sfT ?_
    refine sfN fun c a w hS hC => ?_
    refine ls ?_
    refine s_copyA (k := 0) (off := i_2.toNat * Enc.size (Vector Int 8) + 0) (Δ := [(0, isV (α := List (List Int)) p0), (2, Pr.ptr b_1), (5, isV (α := Int) (p0.length : Int)), (6, isV (α := Int) i_2), (11, Pr.is (.slice (some ⟨b_1, i_2.toNat * Enc.size (Vector Int 8), none⟩) 8 8)), (15, isV (α := List Int) v_10)]) (fun q e => by cases e; decide) sl39 hS rfl ⟨od rfl, od rfl, od rfl, od rfl, od rfl, od rfl, trivial⟩ ⟨fun _ _ _ _ h => h, fun _ _ _ _ h => h, fun _ _ _ _ h => h, fun _ _ _ _ h => h, fun _ _ _ _ h => h, fun _ _ _ _ h => h, trivial⟩ (od rfl) (od rfl) (SetC.at_ e_9 SetC.copy e_13) fun a w hS hM => ?_
    have hS : St _ F0 [Item.box (α := Vector (Vector Int 8) 8) 93 b_1 z_12] _ w0 _ _ := hS
    have hC := Mem.le_trans hC hM
    refine s_next hC ?_
    refine s_done ?_
    refine exit_block ?_
    refine et ?_
    refine st_reg mixed (by kernel_rfl) hS ?_
    refine cg (sp_add (od rfl) (odi)) ?_
    refine mv rfl ?_
    refine sn fun a w hS => ?_
    cases h
    exact ⟨k_5, _, _, rfl, hF_5, hS.weak ⟨od rfl, od rfl, od rfl, od (congrArg (fun z => some (isV (α := Int) z)) hw_5), trivial⟩⟩
  refine wp_exit ?_
  obtain rfl := (fors_done hF_5 hb).symm
  have h := hr_7
  refine exit_thenE ?_
  refine exit_thenE ?_
  refine exit_here ?_
  refine et ?_
  refine ws ?_
  refine l_start ?_
  have hS := st_box 0 2 hS rfl rfl
  refine s_c hS (sg (sp_loadB ty93 (odB rfl))) rfl fun a w hS hM => ?_
  refine s_storeB (k := 0) (Δ := [(2, Pr.ptr b_1), (18, isV (α := Vector (Vector Int 8) 8) s_4)]) ty93 hS rfl ⟨odBx rfl, od rfl, trivial⟩ ⟨fun _ _ _ _ h => h, fun _ _ _ _ h => h, trivial⟩ rfl (od rfl) fun w hS hM => ?_
  have hS : St _ F0 [Item.box (α := Vector (Vector Int 8) 8) 93 b_1 s_4] _ w0 _ _ := hS
  have hS := st_freezeB 0 2 hS rfl rfl
  refine l_end ?_
  refine et ?_
  refine wp_ret ?_
  cases h
  obtain ⟨v, hr, hv⟩ := run_resC1 Tryz.results68 ty93 (hS.get rfl)
  exact st_ret hS hr hv

theorem f69_ok {p0 : Vector (Vector Int 8) 8} {p1 : Int} {r : (Vector (Vector Int 8) 8)} (h : M.f69 p0 p1 = some r) : CallOK Tryz.prog 69 [isV p0, isV p1] (isV r) := by
  unfold M.f69 at h
  refine callS_of Tryz.func69 rfl Tryz.ntmps69 rfl fun F0 w0 a hS => ?_
  refine ws ?_
  refine l_start ?_
  refine s_box hS (od rfl) rfl fun a w b_1 hS hM => ?_
  have hS : St _ F0 [Item.box (α := Vector (Vector Int 8) 8) 93 b_1 p0] _ w0 _ _ := hS
  refine s_alloc zi93 hS rfl fun a w b_2 hS hM => ?_
  have hS : St _ F0 [Item.box (α := Vector (Vector Int 8) 8) 93 b_1 p0, Item.box (α := Vector (Vector Int 8) 8) 93 b_2 ((Vector.replicate 8 (#v[0, 0, 0, 0, 0, 0, 0, 0] : Vector Int 8)) : Vector (Vector Int 8) 8)] _ w0 _ _ := hS
  refine l_end ?_
  refine et ?_
  refine ws ?_
  refine ws ?_
  refine st_reg mixed (by kernel_rfl) hS ?_
  refine mv rfl ?_
  refine cg (sp_move (odi)) ?_
  refine sn fun a w hS => ?_
  refine et ?_
  refine wp_block ?_
  obtain ⟨o_6, e_7, hr_8⟩ := bind_some h
  refine c_loop (fun K a w => ∃ k i_3 s_5, K = k + 1 ∧ ForT _ _ _ o_6 k i_3 s_5 ∧ St 45 F0 [Item.box (α := Vector (Vector Int 8) 8) 93 b_1 s_5, Item.box (α := Vector (Vector Int 8) 8) 93 b_2 ((Vector.replicate 8 (#v[0, 0, 0, 0, 0, 0, 0, 0] : Vector Int 8)) : Vector (Vector Int 8) 8)] [(1, isV (α := Int) p1), (2, Pr.ptr b_1), (4, Pr.ptr b_2), (8, isV (α := Int) p1), (9, isV (α := Int) i_3)] w0 a w) ?_ ?_ ⟨_, _, _, rfl, fors_init e_7, hS.weak ⟨od rfl, od rfl, od rfl, od rfl, od rfl, trivial⟩⟩
  · rintro a w ⟨_, _, _, hk, _⟩; cases hk
  rintro K a w ⟨k_6, i_3, s_5, hk, hF_6, hS⟩
  obtain rfl := Nat.succ.inj hk
  refine ws ?_
  refine st_reg mixed (by kernel_rfl) hS ?_
  refine cg (sp_lss (od rfl) (od rfl)) ?_
  refine sn fun a w hS => ?_
  refine et ?_
  refine ws ?_
  refine st_cond hS rfl (fun hb => ?_) (fun hb => ?_)
  · refine wp_skip ?_
    refine et ?_
    obtain ⟨k_6, s', rfl, h, hF_6, hw_6⟩ := fors_more hF_6 hb
    refine ws ?_
    refine wp_block ?_
    refine ws ?_
    refine st_reg mixed (by kernel_rfl) hS ?_
    refine mv rfl ?_
    refine cg (sp_assign (od rfl)) ?_
    refine sn fun a w hS => ?_
    refine et ?_
    refine ws ?_
    refine st_reg mixed (by kernel_rfl) hS ?_
    refine mv rfl ?_
    refine cg (sp_move (odi)) ?_
    refine sn fun a w hS => ?_
    refine et ?_
    refine wp_block ?_
    obtain ⟨o_12, e_13, hr_14⟩ := bind_some h
    refine c_loop (fun K a w => ∃ k i_9 s_11, K = k + 1 ∧ ForT _ _ _ o_12 k i_9 s_11 ∧ St 45 F0 [Item.box (α := Vector (Vector Int 8) 8) 93 b_1 s_11, Item.box (α := Vector (Vector Int 8) 8) 93 b_2 ((Vector.replicate 8 (#v[0, 0, 0, 0, 0, 0, 0, 0] : Vector Int 8)) : Vector (Vector Int 8) 8)] [(1, isV (α := Int) p1), (2, Pr.ptr b_1), (4, Pr.ptr b_2), (5, isV (α := Int) i_3), (8, isV (α := Int) p1), (9, isV (α := Int) i_3), (12, isV (α := Int) p1), (13, isV (α := Int) i_9)] w0 a w) ?_ ?_ ⟨_, _, _, rfl, fors_init e_13, hS.weak ⟨od rfl, od rfl, od rfl, od rfl, od rfl, od rfl, od rfl, od rfl, trivial⟩⟩
    · rintro a w ⟨_, _, _, hk, _⟩; cases hk
    rintro K a w ⟨k_12, i_9, s_11, hk, hF_12, hS⟩
    obtain rfl := Nat.succ.inj hk
    refine ws ?_
    refine st_reg mixed (by kernel_rfl) hS ?_
    refine cg (sp_lss (od rfl) (od rfl)) ?_
    refine sn fun a w hS => ?_
    refine et ?_
    refine ws ?_
    refine st_cond hS rfl (fun hb => ?_) (fun hb => ?_)
    · refine wp_skip ?_
      refine et ?_
      obtain ⟨k_12, s', rfl, h, hF_12, hw_12⟩ := fors_more hF_12 hb
      refine ws ?_
      refine wp_block ?_
      refine ws ?_
      refine st_reg mixed (by kernel_rfl) hS ?_
      refine mv rfl ?_
      refine cg (sp_assign (od rfl)) ?_
      refine sn fun a w hS => ?_
      refine et ?_
      refine ws ?_
      refine st_reg mixed (by kernel_rfl) hS ?_
      refine mv rfl ?_
      refine cg (sp_move (odi)) ?_
      refine sn fun a w hS => ?_
      refine et ?_
      refine wp_block ?_
      obtain ⟨o_18, e_19, hr_20⟩ := bind_some h
      refine c_loop (fun K a w => ∃ k i_15 s_17, K = k + 1 ∧ ForT _ _ _ o_18 k i_15 s_17 ∧ St 45 F0 [Item.box (α := Vector (Vector Int 8) 8) 93 b_1 s_17, Item.box (α := Vector (Vector Int 8) 8) 93 b_2 ((Vector.replicate 8 (#v[0, 0, 0, 0, 0, 0, 0, 0] : Vector Int 8)) : Vector (Vector Int 8) 8)] [(1, isV (α := Int) p1), (2, Pr.ptr b_1), (4, Pr.ptr b_2), (5, isV (α := Int) i_3), (6, isV (α := Int) i_9), (8, isV (α := Int) p1), (9, isV (α := Int) i_3), (12, isV (α := Int) p1), (13, isV (α := Int) i_9), (16, isV (α := Int) p1), (17, isV (α := Int) i_15)] w0 a w) ?_ ?_ ⟨_, _, _, rfl, fors_init e_19, hS.weak ⟨od rfl, od rfl, od rfl, od rfl, od rfl, od rfl, od rfl, od rfl, od rfl, od rfl, od rfl, trivial⟩⟩
      · rintro a w ⟨_, _, _, hk, _⟩; cases hk
      rintro K a w ⟨k_18, i_15, s_17, hk, hF_18, hS⟩
      obtain rfl := Nat.succ.inj hk
      refine ws ?_
      refine st_reg mixed (by kernel_rfl) hS ?_
      refine cg (sp_lss (od rfl) (od rfl)) ?_
      refine sn fun a w hS => ?_
      refine et ?_
      refine ws ?_
      refine st_cond hS rfl (fun hb => ?_) (fun hb => ?_)
      · refine wp_skip ?_
        refine et ?_
        obtain ⟨k_18, s', rfl, h, hF_18, hw_18⟩ := fors_more hF_18 hb
        refine ws ?_
        refine wp_block ?_
        refine ws ?_
        refine st_reg mixed (by kernel_rfl) hS ?_
        refine mv rfl ?_
        refine cg (sp_assign (od rfl)) ?_
        refine sn fun a w hS => ?_
        refine et ?_
        have hS := st_box 0 2 hS rfl rfl
        obtain ⟨v_21, e_22, h⟩ := bind_some h
        obtain ⟨v_23, e_24, h⟩ := bind_some h
        obtain ⟨v_25, e_26, h⟩ := bind_some h
        obtain ⟨v_27, e_28, h⟩ := bind_some h
        obtain ⟨v_29, e_30, h⟩ := bind_some h
        obtain ⟨v_31, e_32, h⟩ := bind_some h
        obtain ⟨v_33, e_34, h⟩ := bind_some h
        obtain ⟨v_35, e_36, h⟩ := bind_some h
        obtain ⟨z_37, e_38, h⟩ := bind_some h
        obtain ⟨z_39, e_40, h⟩ := bind_some h
        refine st_float mixed [0, 0, 0, 0, 0, 0, 0, 0, 0, 0, 0, 0, 0, 0, 0, 0, 0, 0, 0, 0, 0, 2] (by kernel_rfl) (by kernel_rfl) hS ?_
        refine sfA (sg (sp_move (od rfl))) ?_
        refine sfA (sg (sp_move (od rfl))) ?_
        refine sfA (sg (sp_move (od rfl))) ?_
        refine sfA (sg (sp_move (od rfl))) ?_
        refine sfA (sg (sp_indexAddrAB ar93 (odB rfl) (od rfl) e_22)) ?_
        refine sfA (sg (sp_indexAddrAB ar91 (od rfl) (od rfl) e_24)) ?_
        refine sfA (sg (sp_loadB ty3 (od rfl))) ?_
        refine sfA (sg (sp_move (od rfl))) ?_
        refine sfA (sg (sp_move (od rfl))) ?_
        refine sfA (sg (sp_indexAddrAB ar93 (odB rfl) (od rfl) e_26)) ?_
        refine sfA (sg (sp_indexAddrAB ar91 (od rfl) (od rfl) e_28)) ?_
        refine sfA (sg (sp_loadB ty3 (od rfl))) ?_
        refine sfA (sg (sp_move (od rfl))) ?_
        refine sfA (sg (sp_move (od rfl))) ?_
        refine sfA (sg (sp_indexAddrAB ar93 (odB rfl) (od rfl) e_30)) ?_
        refine sfA (sg (sp_indexAddrAB ar91 (od rfl) (od rfl) e_32)) ?_
        refine sfA (sg (sp_loadB ty3 (od rfl))) ?_
        refine sfA (sg (sp_add (od rfl) (od rfl))) ?_
        refine sfA (sg (sp_min (od rfl) (od rfl))) ?_
        refine sfA (sg (sp_indexAddrPI ar93 (odBx rfl) (od rfl) e_34)) ?_
        refine sfA (sg (sp_indexAddrQ ar91 (od rfl) (od rfl) e_36)) ?_
        refine sfT ?_
        refine sfN fun c a w hS hC => ?_
        refine ls ?_
        refine s_storeP (k := 0) (off := i_9.toNat * Enc.size (Vector Int 8) + i_15.toNat * Enc.size Int) (Δ := [(1, isV (α := Int) p1), (2, Pr.ptr b_1), (4, Pr.ptr b_2), (5, isV (α := Int) i_3), (6, isV (α := Int) i_9), (8, isV (α := Int) p1), (9, isV (α := Int) i_3), (12, isV (α := Int) p1), (13, isV (α := Int) i_9), (16, isV (α := Int) p1), (17, isV (α := Int) i_15), (38, isV (α := Int) (imin v_23 (wr (v_27 + v_31)))), (40, Pr.is (.pointer (some ⟨b_1, i_9.toNat * Enc.size (Vector Int 8) + i_15.toNat * Enc.size Int, none⟩)))]) ty3 hS rfl ⟨od rfl, odBx rfl, od rfl, od rfl, od rfl, od rfl, od rfl, od rfl, od rfl, od rfl, od rfl, od rfl, od rfl, trivial⟩ ⟨fun _ _ _ _ h => h, fun _ _ _ _ h => h, fun _ _ _ _ h => h, fun _ _ _ _ h => h, fun _ _ _ _ h => h, fun _ _ _ _ h => h, fun _ _ _ _ h => h, fun _ _ _ _ h => h, fun _ _ _ _ h => h, fun _ _ _ _ h => h, fun _ _ _ _ h => h, fun _ _ _ _ h => h, fun _ _ _ _ h => h, trivial⟩ (od rfl) (od rfl) (SetF.at_ e_34 (SetF.vec e_38) e_40) fun w hS hM => ?_
        have hS : St _ F0 [Item.box (α := Vector (Vector Int 8) 8) 93 b_1 z_39, Item.box (α := Vector (Vector Int 8) 8) 93 b_2 ((Vector.replicate 8 (#v[0, 0, 0, 0, 0, 0, 0, 0] : Vector Int 8)) : Vector (Vector Int 8) 8)] _ w0 _ _ := hS
        have hC := Mem.le_trans hC hM
        refine s_next hC ?_
        refine s_done ?_
        refine exit_block ?_
        refine et ?_
        refine st_reg mixed (by kernel_rfl) hS ?_
        refine cg (sp_add (od rfl) (odi)) ?_
        refine mv rfl ?_
        refine sn fun a w hS => ?_
        cases h
        exact ⟨k_18, _, _, rfl, hF_18, hS.weak ⟨od rfl, od rfl, od rfl, od rfl, od rfl, od rfl, od rfl, od rfl, od rfl, od rfl, od (congrArg (fun z => some (isV (α := Int) z)) hw_18), trivial⟩⟩
      refine wp_exit ?_
      obtain rfl := (fors_done hF_18 hb).symm
      have h := hr_20
      refine exit_thenE ?_
      refine exit_thenE ?_
      refine exit_here ?_
      refine exit_block ?_
      refine et ?_
      refine st_reg mixed (by kernel_rfl) hS ?_
      refine cg (sp_add (od rfl) (odi)) ?_
      refine mv rfl ?_
      refine sn fun a w hS => ?_
      cases h
      exact ⟨k_12, _, _, rfl, hF_12, hS.weak ⟨od rfl, od rfl, od rfl, od rfl, od rfl, od rfl, od rfl, od (congrArg (fun z => some (isV (α := Int) z)) hw_12), trivial⟩⟩
    refine wp_exit ?_
    obtain rfl := (fors_done hF_12 hb).symm
    have h := hr_14
    refine exit_thenE ?_
    refine exit_thenE ?_
    refine exit_here ?_
    refine exit_block ?_
    refine et ?_
    refine st_reg mixed (by kernel_rfl) hS ?_
    refine cg (sp_add (od rfl) (odi)) ?_
    refine mv rfl ?_
    refine sn fun a w hS => ?_
    cases h
    exact ⟨k_6, _, _, rfl, hF_6, hS.weak ⟨od rfl, od rfl, od rfl, od rfl, od (congrArg (fun z => some (isV (α := Int) z)) hw_6), trivial⟩⟩
  refine wp_exit ?_
  obtain rfl := (fors_done hF_6 hb).symm
  have h := hr_8
  refine exit_thenE ?_
  refine exit_thenE ?_
  refine exit_here ?_
  refine et ?_
  refine ws ?_
  refine l_start ?_
  have hS := st_box 0 2 hS rfl rfl
  refine s_c hS (sg (sp_loadB ty93 (odB rfl))) rfl fun a w hS hM => ?_
  refine s_storeB (k := 1) (Δ := [(4, Pr.ptr b_2), (44, isV (α := Vector (Vector Int 8) 8) s_5)]) ty93 hS rfl ⟨od rfl, od rfl, trivial⟩ ⟨fun _ _ _ _ h => h, fun _ _ _ _ h => h, trivial⟩ rfl (od rfl) fun w hS hM => ?_
  have hS : St _ F0 [Item.box (α := Vector (Vector Int 8) 8) 93 b_1 s_5, Item.box (α := Vector (Vector Int 8) 8) 93 b_2 s_5] _ w0 _ _ := hS
  have hS := st_freezeB 1 4 hS rfl rfl
  refine l_end ?_
  refine et ?_
  refine wp_ret ?_
  cases h
  obtain ⟨v, hr, hv⟩ := run_resC1 Tryz.results69 ty93 (hS.get rfl)
  exact st_ret hS hr hv

theorem f26_ok {p0 : S_api_Turn} {r : Bool} (h : M.f26 p0 = some r) : CallOK Tryz.prog 26 [isV p0] (isV r) := by
  unfold M.f26 at h
  refine callS_of Tryz.func26 rfl Tryz.ntmps26 rfl fun F0 w0 a hS => ?_
  refine ws ?_
  refine st_reg mixed (by kernel_rfl) hS ?_
  refine cg (sp_box (od rfl)) ?_
  refine cg (sp_assign (odb)) ?_
  refine sn fun a w hS => ?_
  refine et ?_
  refine ws ?_
  obtain ⟨v_1, e_2, h⟩ := bind_some h
  obtain ⟨v_3, e_4, h⟩ := bind_some h
  obtain ⟨v_5, e_6, h⟩ := bind_some h
  obtain ⟨v_7, e_8, h⟩ := bind_some h
  obtain ⟨v_9, e_10, h⟩ := bind_some h
  obtain ⟨v_11, e_12, h⟩ := bind_some h
  refine st_reg mixed (by kernel_rfl) hS ?_
  refine cg (sp_fieldAddr fd23_0 (od rfl)) ?_
  refine cg (sp_load ty3 (od rfl)) ?_
  refine cg (sp_call en54 (f54_ok e_2) ⟨od rfl, odi, odi, trivial⟩) ?_
  refine mv rfl ?_
  refine sc (sgT rfl fun hG => sp_fieldAddr fd23_1 (od rfl)) ?_
  refine sc (sgT rfl fun hG => sp_load ty3 (odw rfl hG)) ?_
  refine sc (sgT rfl fun hG => sp_call en54 (f54_ok (guard_some e_4 hG)) ⟨odw rfl hG, odi, odi, trivial⟩) ?_
  refine cg (sp_pickAnd (od rfl) fun hg => odw rfl hg) ?_
  refine mv rfl ?_
  refine sc (sgT rfl fun hG => sp_fieldAddr fd23_3 (od rfl)) ?_
  refine sc (sgT rfl fun hG => sp_load ty3 (odw rfl hG)) ?_
  refine sc (sgT rfl fun hG => sp_call en54 (f54_ok (guard_some e_6 hG)) ⟨odw rfl hG, odi, odi, trivial⟩) ?_
  refine cg (sp_pickAnd (od rfl) fun hg => odw rfl hg) ?_
  refine mv rfl ?_
  refine sc (sgT rfl fun hG => sp_fieldAddr fd23_2 (od rfl)) ?_
  refine sc (sgT rfl fun hG => sp_load ty3 (odw rfl hG)) ?_
  refine sc (sgT rfl fun hG => sp_call en54 (f54_ok (guard_some e_8 hG)) ⟨odw rfl hG, odi, odi, trivial⟩) ?_
  refine cg (sp_pickAnd (od rfl) fun hg => odw rfl hg) ?_
  refine mv rfl ?_
  refine sc (sgT rfl fun hG => sp_fieldAddr fd23_4 (od rfl)) ?_
  refine sc (sgT rfl fun hG => sp_load ty3 (odw rfl hG)) ?_
  refine sc (sgT rfl fun hG => sp_call en54 (f54_ok (guard_some e_10 hG)) ⟨odw rfl hG, odi, odi, trivial⟩) ?_
  refine cg (sp_pickAnd (od rfl) fun hg => odw rfl hg) ?_
  refine mv rfl ?_
  refine sc (sgT rfl fun hG => sp_fieldAddr fd23_5 (od rfl)) ?_
  refine sc (sgT rfl fun hG => sp_load ty3 (odw rfl hG)) ?_
  refine sc (sgT rfl fun hG => sp_call en54 (f54_ok (guard_some e_12 hG)) ⟨odw rfl hG, odi, odi, trivial⟩) ?_
  refine cg (sp_pickAnd (od rfl) fun hg => odw rfl hg) ?_
  refine cg (sp_assign (od rfl)) ?_
  refine sn fun a w hS => ?_
  refine et ?_
  refine wp_ret ?_
  cases h
  exact st_ret hS (run_results1 Tryz.results26 a w) (hS.get rfl)

theorem f25_ok {p0 : S_api_Roster} {r : Int} (h : M.f25 p0 = some r) : CallOK Tryz.prog 25 [isV p0] (isV r) := by
  unfold M.f25 at h
  refine callS_of Tryz.func25 rfl Tryz.ntmps25 rfl fun F0 w0 a hS => ?_
  refine ws ?_
  refine st_reg mixed (by kernel_rfl) hS ?_
  refine cg (sp_box (od rfl)) ?_
  refine cg (sp_assign (odi)) ?_
  refine sn fun a w hS => ?_
  refine et ?_
  refine ws ?_
  refine st_reg mixed (by kernel_rfl) hS ?_
  refine cg (sp_fieldAddr fd34_3 (od rfl)) ?_
  refine cg (sp_load ty31 (od rfl)) ?_
  refine cg (sp_len Tryz.underlying31 (od rfl)) ?_
  refine cg (sp_assign (od rfl)) ?_
  refine sn fun a w hS => ?_
  refine et ?_
  refine ws ?_
  refine ws ?_
  obtain ⟨v_1, e_2, h⟩ := bind_some h
  obtain ⟨v_3, e_4, h⟩ := bind_some h
  obtain ⟨v_5, e_6, h⟩ := bind_some h
  obtain ⟨v_7, e_8, h⟩ := bind_some h
  refine st_reg mixed (by kernel_rfl) hS ?_
  refine cg (sp_fieldAddr fd34_0 (od rfl)) ?_
  refine cg (sp_load ty3 (od rfl)) ?_
  refine cg (sp_call en54 (f54_ok e_2) ⟨od rfl, odi, odi, trivial⟩) ?_
  refine cg (sp_not (od rfl)) ?_
  refine mv rfl ?_
  refine sc (sgF rfl fun hG => sp_fieldAddr fd34_1 (od rfl)) ?_
  refine sc (sgF rfl fun hG => sp_load ty3 (odw rfl hG)) ?_
  refine sc (sgF rfl fun hG => sp_call en54 (f54_ok (guard_some e_4 hG)) ⟨odw rfl hG, odi, odi, trivial⟩) ?_
  refine sc (sgF rfl fun hG => sp_not (odw rfl hG)) ?_
  refine cg (sp_pickOr (od rfl) fun hg => odw rfl (not_t hg)) ?_
  refine mv rfl ?_
  refine sc (sgF rfl fun hG => sp_fieldAddr fd34_2 (od rfl)) ?_
  refine sc (sgF rfl fun hG => sp_load ty3 (odw rfl hG)) ?_
  refine sc (sgF rfl fun hG => sp_call en54 (f54_ok (guard_some e_6 hG)) ⟨odw rfl hG, odi, odi, trivial⟩) ?_
  refine sc (sgF rfl fun hG => sp_not (odw rfl hG)) ?_
  refine cg (sp_pickOr (od rfl) fun hg => odw rfl (not_t hg)) ?_
  refine mv rfl ?_
  refine sc (sgF rfl fun hG => sp_fieldAddr fd34_1 (od rfl)) ?_
  refine sc (sgF rfl fun hG => sp_load ty3 (odw rfl hG)) ?_
  refine sc (sgF rfl fun hG => sp_fieldAddr fd34_2 (od rfl)) ?_
  refine sc (sgF rfl fun hG => sp_load ty3 (odw rfl hG)) ?_
  refine sc (sgF rfl fun hG => sp_geq (odw rfl hG) (odw rfl hG)) ?_
  refine cg (sp_pickOr (od rfl) fun hg => odw rfl (not_t hg)) ?_
  refine mv rfl ?_
  refine sc (sgF rfl fun hG => sp_move (od rfl)) ?_
  refine sc (sgF rfl fun hG => sp_call en54 (f54_ok (guard_some e_8 hG)) ⟨odw rfl hG, odi, odi, trivial⟩) ?_
  refine sc (sgF rfl fun hG => sp_not (odw rfl hG)) ?_
  refine cg (sp_pickOr (od rfl) fun hg => odw rfl (not_t hg)) ?_
  refine mv rfl ?_
  refine sc (sgF rfl fun hG => sp_fieldAddr fd34_4 (od rfl)) ?_
  refine sc (sgF rfl fun hG => sp_load ty32 (odw rfl hG)) ?_
  refine sc (sgF rfl fun hG => sp_len Tryz.underlying32 (odw rfl hG)) ?_
  refine sc (sgF rfl fun hG => sp_gtr (odw rfl hG) (odi)) ?_
  refine cg (sp_pickOr (od rfl) fun hg => odw rfl (not_t hg)) ?_
  refine sn fun a w hS => ?_
  refine et ?_
  refine st_cond hS rfl (fun hb => ?_) (fun hb => ?_)
  · have h := ite_t hb h
    refine ws ?_
    refine st_reg mixed (by kernel_rfl) hS ?_
    refine cg (sp_assign (odi)) ?_
    refine sn fun a w hS => ?_
    refine et ?_
    refine wp_ret ?_
    refine exit_thenR ?_
    cases h
    exact st_ret hS (run_results1 Tryz.results25 a w) (hS.get rfl)
  have h := ite_f hb h
  refine wp_skip ?_
  refine et ?_
  refine ws ?_
  refine ws ?_
  refine st_reg mixed (by kernel_rfl) hS ?_
  refine cg (sp_fieldAddr fd34_3 (od rfl)) ?_
  refine cg (sp_load ty31 (od rfl)) ?_
  refine cg (sp_len Tryz.underlying31 (od rfl)) ?_
  refine cg (sp_move (odi)) ?_
  refine sn fun a w hS => ?_
  refine et ?_
  refine wp_block ?_
  obtain ⟨o_12, e_13, hr_14⟩ := bind_some h
  refine c_loop (fun K a w => ∃ k i_9 s_11, K = k + 1 ∧ ForI _ _ _ o_12 k i_9 s_11 ∧ St 119 F0 [] [(1, isA (α := S_api_Roster) p0), (3, isV (α := Int) (p0.2.2.2.1.length : Int)), (49, isV (α := List (List Int)) p0.2.2.2.1), (50, isV (α := Int) (p0.2.2.2.1.length : Int)), (51, isV (α := Int) i_9)] w0 a w) ?_ ?_ ⟨_, _, _, rfl, for_init e_13, hS.weak ⟨od rfl, od rfl, od rfl, od rfl, od rfl, trivial⟩⟩
  · rintro a w ⟨_, _, _, hk, _⟩; cases hk
  rintro K a w ⟨k_12, i_9, s_11, hk, hF_12, hS⟩
  obtain rfl := Nat.succ.inj hk
  refine ws ?_
  refine st_reg mixed (by kernel_rfl) hS ?_
  refine cg (sp_lss (od rfl) (od rfl)) ?_
  refine sn fun a w hS => ?_
  refine et ?_
  refine ws ?_
  refine st_cond hS rfl (fun hb => ?_) (fun hb => ?_)
  · refine wp_skip ?_
    refine et ?_
    obtain ⟨k_12, o, rfl, h, hN_12, hL_12, hw_12⟩ := for_more hF_12 hb
    refine ws ?_
    refine wp_block ?_
    refine ws ?_
    obtain ⟨v_15, e_16, h⟩ := bind_some h
    refine st_reg mixed (by kernel_rfl) hS ?_
    refine mv rfl ?_
    refine cg (sp_indexAddr sl31 (od rfl) (od rfl) e_16) ?_
    refine cg (sp_load ty39 (od rfl)) ?_
    refine cg (sp_assign (od rfl)) ?_
    refine cg (sp_assign (od rfl)) ?_
    refine sn fun a w hS => ?_
    refine et ?_
    refine ws ?_
    refine ws ?_
    refine st_reg mixed (by kernel_rfl) hS ?_
    refine mv rfl ?_
    refine cg (sp_len Tryz.underlying39 (od rfl)) ?_
    refine mv rfl ?_
    refine cg (sp_neq (od rfl) (od rfl)) ?_
    refine sn fun a w hS => ?_
    refine et ?_
    refine st_cond hS rfl (fun hb => ?_) (fun hb => ?_)
    · have h := ite_t hb h
      refine ws ?_
      refine st_reg mixed (by kernel_rfl) hS ?_
      refine cg (sp_assign (odi)) ?_
      refine sn fun a w hS => ?_
      refine et ?_
      refine wp_ret ?_
      refine exit_thenR ?_
      refine exit_blockR ?_
      refine exit_thenR ?_
      cases h
      obtain rfl := hL_12 _ rfl
      have h := (elim_leave hr_14)
      refine exit_thenR ?_
      refine exit_blockR ?_
      refine exit_thenR ?_
      cases h
      exact st_ret hS (run_results1 Tryz.results25 a w) (hS.get rfl)
    have h := ite_f hb h
    refine wp_skip ?_
    refine et ?_
    refine ws ?_
    refine st_reg mixed (by kernel_rfl) hS ?_
    refine mv rfl ?_
    refine cg (sp_len Tryz.underlying39 (od rfl)) ?_
    refine cg (sp_move (odi)) ?_
    refine sn fun a w hS => ?_
    refine et ?_
    refine wp_block ?_
    obtain ⟨o_20, e_21, hr_22⟩ := bind_some h
    refine c_loop (fun K a w => ∃ k i_17 s_19, K = k + 1 ∧ ForI _ _ _ o_20 k i_17 s_19 ∧ St 119 F0 [] [(1, isA (α := S_api_Roster) p0), (3, isV (α := Int) (p0.2.2.2.1.length : Int)), (4, isV (α := Int) i_9), (49, isV (α := List (List Int)) p0.2.2.2.1), (50, isV (α := Int) (p0.2.2.2.1.length : Int)), (51, isV (α := Int) i_9), (60, isV (α := List Int) v_15), (61, isV (α := Int) (v_15.length : Int)), (62, isV (α := Int) i_17)] w0 a w) ?_ ?_ ⟨_, _, _, rfl, for_init e_21, hS.weak ⟨od rfl, od rfl, od rfl, od rfl, od rfl, od rfl, od rfl, od rfl, od rfl, trivial⟩⟩
    · rintro a w ⟨_, _, _, hk, _⟩; cases hk
    rintro K a w ⟨k_20, i_17, s_19, hk, hF_20, hS⟩
    obtain rfl := Nat.succ.inj hk
    refine ws ?_
    refine st_reg mixed (by kernel_rfl) hS ?_
    refine cg (sp_lss (od rfl) (od rfl)) ?_
    refine sn fun a w hS => ?_
    refine et ?_
    refine ws ?_
    refine st_cond hS rfl (fun hb => ?_) (fun hb => ?_)
    · refine wp_skip ?_
      refine et ?_
      obtain ⟨k_20, o, rfl, h, hN_20, hL_20, hw_20⟩ := for_more hF_20 hb
      refine ws ?_
      refine wp_block ?_
      refine ws ?_
      obtain ⟨v_23, e_24, h⟩ := bind_some h
      refine st_reg mixed (by kernel_rfl) hS ?_
      refine mv rfl ?_
      refine cg (sp_indexAddr sl39 (od rfl) (od rfl) e_24) ?_
      refine cg (sp_load ty3 (od rfl)) ?_
      refine cg (sp_assign (od rfl)) ?_
      refine cg (sp_assign (od rfl)) ?_
      refine sn fun a w hS => ?_
      refine et ?_
      refine ws ?_
      obtain ⟨v_25, e_26, h⟩ := bind_some h
      refine st_reg mixed (by kernel_rfl) hS ?_
      refine mv rfl ?_
      refine cg (sp_call en54 (f54_ok e_26) ⟨od rfl, odi, odi, trivial⟩) ?_
      refine cg (sp_not (od rfl)) ?_
      refine mv rfl ?_
      refine sc (sgF rfl fun hG => sp_move (od rfl)) ?_
      refine sc (sgF rfl fun hG => sp_move (od rfl)) ?_
      refine sc (sgF rfl fun hG => sp_eql (odw rfl hG) (odw rfl hG)) ?_
      refine sc (sgF rfl fun hG => sp_move (odw rfl hG)) ?_
      refine sc (sgwT rfl fun hG => sp_move (od rfl)) ?_
      refine sc (sgwT rfl fun hG => sp_neq (odw rfl hG) (odi)) ?_
      refine sc (sgF rfl fun hG => sp_pickAnd (odw rfl hG) fun hg => odw rfl (and_mk hG hg)) ?_
      refine cg (sp_pickOr (od rfl) fun hg => odw rfl (not_t hg)) ?_
      refine sn fun a w hS => ?_
      refine et ?_
      refine st_cond hS rfl (fun hb => ?_) (fun hb => ?_)
      · have h := ite_t hb h
        refine ws ?_
        refine st_reg mixed (by kernel_rfl) hS ?_
        refine cg (sp_assign (odi)) ?_
        refine sn fun a w hS => ?_
        refine et ?_
        refine wp_ret ?_
        refine exit_blockR ?_
        refine exit_thenR ?_
        cases h
        obtain rfl := hL_20 _ rfl
        have h := (elim_leave hr_22)
        refine exit_thenR ?_
        refine exit_blockR ?_
        refine exit_blockR ?_
        refine exit_thenR ?_
        cases h
        obtain rfl := hL_12 _ rfl
        have h := (elim_leave hr_14)
        refine exit_thenR ?_
        refine exit_blockR ?_
        refine exit_thenR ?_
        cases h
        exact st_ret hS (run_results1 Tryz.results25 a w) (hS.get rfl)
      have h := ite_f hb h
      refine wp_skip ?_
      refine exit_block ?_
      refine et ?_
      refine st_reg mixed (by kernel_rfl) hS ?_
      refine cg (sp_add (od rfl) (odi)) ?_
      refine mv rfl ?_
      refine sn fun a w hS => ?_
      cases h
      exact ⟨k_20, _, _, rfl, hN_20 _ rfl, hS.weak ⟨od rfl, od rfl, od rfl, od rfl, od rfl, od rfl, od rfl, od rfl, od (congrArg (fun z => some (isV (α := Int) z)) hw_20), trivial⟩⟩
    refine wp_exit ?_
    obtain rfl := for_done hF_20 hb
    have h := elim_again hr_22
    refine exit_thenE ?_
    refine exit_thenE ?_
    refine exit_here ?_
    refine exit_block ?_
    refine et ?_
    refine st_reg mixed (by kernel_rfl) hS ?_
    refine cg (sp_add (od rfl) (odi)) ?_
    refine mv rfl ?_
    refine sn fun a w hS => ?_
    cases h
    exact ⟨k_12, _, _, rfl, hN_12 _ rfl, hS.weak ⟨od rfl, od rfl, od rfl, od rfl, od (congrArg (fun z => some (isV (α := Int) z)) hw_12), trivial⟩⟩
  refine wp_exit ?_
  obtain rfl := for_done hF_12 hb
  have h := elim_again hr_14
  refine exit_thenE ?_
  refine exit_thenE ?_
  refine exit_here ?_
  refine et ?_
  refine ws ?_
  refine ws ?_
  obtain ⟨v_28, e_29, h⟩ := bind_some h
  refine l_start ?_
  refine s_c hS (sg (sp_fieldAddr fd34_3 (od rfl))) rfl fun a w hS hM => ?_
  refine s_c hS (sg (sp_load ty31 (od rfl))) rfl fun a w hS hM => ?_
  refine s_c hS (sg (sp_call en68 (f68_ok e_29) ⟨od rfl, trivial⟩)) rfl fun a w hS hM => ?_
  refine s_allocStore ze93 hS (od rfl) (fun k hk => by cases hk; rfl) rfl fun a w hS hM => ?_
  refine l_end ?_
  refine et ?_
  refine ws ?_
  obtain ⟨v_30, e_31, h⟩ := bind_some h
  refine st_reg mixed (by kernel_rfl) hS ?_
  refine cg (sp_load ty93 (od rfl)) ?_
  refine cg (sp_load ty93 (od rfl)) ?_
  refine mv rfl ?_
  refine cg (sp_call en69 (f69_ok e_31) ⟨od rfl, od rfl, trivial⟩) ?_
  refine cg (sp_neqS eq93 rfl eg93 rfl (od rfl) (od rfl)) ?_
  refine sn fun a w hS => ?_
  refine et ?_
  refine st_cond hS rfl (fun hb => ?_) (fun hb => ?_)
  · have h := ite_t hb h
    refine ws ?_
    refine st_reg mixed (by kernel_rfl) hS ?_
    refine cg (sp_assign (odi)) ?_
    refine sn fun a w hS => ?_
    refine et ?_
    refine wp_ret ?_
    refine exit_thenR ?_
    cases h
    exact st_ret hS (run_results1 Tryz.results25 a w) (hS.get rfl)
  have h := ite_f hb h
  refine wp_skip ?_
  refine et ?_
  refine ws ?_
  refine ws ?_
  refine st_reg mixed (by kernel_rfl) hS ?_
  refine cg (sp_fieldAddr fd34_4 (od rfl)) ?_
  refine cg (sp_load ty32 (od rfl)) ?_
  refine cg (sp_len Tryz.underlying32 (od rfl)) ?_
  refine cg (sp_move (odi)) ?_
  refine sn fun a w hS => ?_
  refine et ?_
  refine wp_block ?_
  obtain ⟨o_35, e_36, hr_37⟩ := bind_some h
  refine c_loop (fun K a w => ∃ k i_32 s_34, K = k + 1 ∧ ForI _ _ _ o_35 k i_32 s_34 ∧ St 119 F0 [] [(1, isA (α := S_api_Roster) p0), (3, isV (α := Int) (p0.2.2.2.1.length : Int)), (90, isV (α := List S_api_Turn) p0.2.2.2.2), (91, isV (α := Int) (p0.2.2.2.2.length : Int)), (92, isV (α := Int) i_32)] w0 a w) ?_ ?_ ⟨_, _, _, rfl, for_init e_36, hS.weak ⟨od rfl, od rfl, od rfl, od rfl, od rfl, trivial⟩⟩
  · rintro a w ⟨_, _, _, hk, _⟩; cases hk
  rintro K a w ⟨k_35, i_32, s_34, hk, hF_35, hS⟩
  obtain rfl := Nat.succ.inj hk
  refine ws ?_
  refine st_reg mixed (by kernel_rfl) hS ?_
  refine cg (sp_lss (od rfl) (od rfl)) ?_
  refine sn fun a w hS => ?_
  refine et ?_
  refine ws ?_
  refine st_cond hS rfl (fun hb => ?_) (fun hb => ?_)
  · refine wp_skip ?_
    refine et ?_
    obtain ⟨k_35, o, rfl, h, hN_35, hL_35, hw_35⟩ := for_more hF_35 hb
    refine ws ?_
    refine wp_block ?_
    refine ws ?_
    obtain ⟨v_38, e_39, h⟩ := bind_some h
    refine l_start ?_
    refine s_c hS (sg (sp_indexAddr sl32 (od rfl) (od rfl) e_39)) rfl fun a w hS hM => ?_
    refine s_c hS (sg (sp_load ty23 (od rfl))) rfl fun a w hS hM => ?_
    refine s_allocStore ze23 hS (od rfl) (fun k hk => by cases hk; rfl) rfl fun a w hS hM => ?_
    refine l_end ?_
    refine et ?_
    refine ws ?_
    obtain ⟨v_40, e_41, h⟩ := bind_some h
    refine st_reg mixed (by kernel_rfl) hS ?_
    refine cg (sp_load ty23 (od rfl)) ?_
    refine cg (sp_call en26 (f26_ok e_41) ⟨od rfl, trivial⟩) ?_
    refine cg (sp_not (od rfl)) ?_
    refine mv rfl ?_
    refine sc (sgF rfl fun hG => sp_fieldAddr fd23_0 (od rfl)) ?_
    refine sc (sgF rfl fun hG => sp_load ty3 (odw rfl hG)) ?_
    refine sc (sgF rfl fun hG => sp_fieldAddr fd34_0 (od rfl)) ?_
    refine sc (sgF rfl fun hG => sp_load ty3 (odw rfl hG)) ?_
    refine sc (sgF rfl fun hG => sp_geq (odw rfl hG) (odw rfl hG)) ?_
    refine cg (sp_pickOr (od rfl) fun hg => odw rfl (not_t hg)) ?_
    refine mv rfl ?_
    refine sc (sgF rfl fun hG => sp_fieldAddr fd23_1 (od rfl)) ?_
    refine sc (sgF rfl fun hG => sp_load ty3 (odw rfl hG)) ?_
    refine sc (sgF rfl fun hG => sp_move (od rfl)) ?_
    refine sc (sgF rfl fun hG => sp_geq (odw rfl hG) (odw rfl hG)) ?_
    refine cg (sp_pickOr (od rfl) fun hg => odw rfl (not_t hg)) ?_
    refine mv rfl ?_
    refine sc (sgF rfl fun hG => sp_fieldAddr fd23_3 (od rfl)) ?_
    refine sc (sgF rfl fun hG => sp_load ty3 (odw rfl hG)) ?_
    refine sc (sgF rfl fun hG => sp_move (od rfl)) ?_
    refine sc (sgF rfl fun hG => sp_geq (odw rfl hG) (odw rfl hG)) ?_
    refine cg (sp_pickOr (od rfl) fun hg => odw rfl (not_t hg)) ?_
    refine sn fun a w hS => ?_
    refine et ?_
    refine st_cond hS rfl (fun hb => ?_) (fun hb => ?_)
    · have h := ite_t hb h
      refine ws ?_
      refine st_reg mixed (by kernel_rfl) hS ?_
      refine cg (sp_assign (odi)) ?_
      refine sn fun a w hS => ?_
      refine et ?_
      refine wp_ret ?_
      refine exit_blockR ?_
      refine exit_thenR ?_
      cases h
      obtain rfl := hL_35 _ rfl
      have h := (elim_leave hr_37)
      refine exit_thenR ?_
      refine exit_blockR ?_
      refine exit_thenR ?_
      cases h
      exact st_ret hS (run_results1 Tryz.results25 a w) (hS.get rfl)
    have h := ite_f hb h
    refine wp_skip ?_
    refine exit_block ?_
    refine et ?_
    refine st_reg mixed (by kernel_rfl) hS ?_
    refine cg (sp_add (od rfl) (odi)) ?_
    refine mv rfl ?_
    refine sn fun a w hS => ?_
    cases h
    exact ⟨k_35, _, _, rfl, hN_35 _ rfl, hS.weak ⟨od rfl, od rfl, od rfl, od rfl, od (congrArg (fun z => some (isV (α := Int) z)) hw_35), trivial⟩⟩
  refine wp_exit ?_
  obtain rfl := for_done hF_35 hb
  have h := elim_again hr_37
  refine exit_thenE ?_
  refine exit_thenE ?_
  refine exit_here ?_
  refine et ?_
  refine ws ?_
  refine st_reg mixed (by kernel_rfl) hS ?_
  refine cg (sp_assign (odi)) ?_
  refine sn fun a w hS => ?_
  refine et ?_
  refine wp_ret ?_
  cases h
  exact st_ret hS (run_results1 Tryz.results25 a w) (hS.get rfl)

end Go.Proofs.YtnnhmgcigoiceaaGreatDoor
