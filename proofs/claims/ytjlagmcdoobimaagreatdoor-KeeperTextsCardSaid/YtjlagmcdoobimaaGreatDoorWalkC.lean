/-
  What is proved: each Go function named here returns what its model tells, and changes nothing that was there; where the model tells something.
-/
import Derived.Test.YtjlagmcdoobimaaGreatDoorWalkB2
import Derived.Test.YtjlagmcdoobimaaGreatDoorGivenT
import Derived.Test.YtjlagmcdoobimaaGreatDoorModelC
set_option linter.unusedVariables false
set_option maxRecDepth 100000
namespace Go.Proofs.YtjlagmcdoobimaaGreatDoor
open Go Go.RowKit Go.Proofs.YtjlagmcdoobimaaGreatDoor.Wh

theorem f5_ok {p0 : S_api_Offer} {r : ByteArray × Int} (h : M.f5 p0 = some r) : CallT Tryz.prog 5 [isV p0] (isTup [isV r.1, isV r.2]) := by
  unfold M.f5 at h
  refine callT_of Tryz.func5 rfl Tryz.ntmps5 rfl fun F0 w0 a hT hS => ?_
  refine ws ?_
  refine st_reg mixed (by kernel_rfl) hS ?_
  refine cg (sp_box (od rfl)) ?_
  refine cg (sp_assign (φ := isV ((⟨#[]⟩ : ByteArray) : ByteArray)) (ods)) ?_
  refine cg (sp_assign (odi)) ?_
  refine sn fun a w hS => ?_
  refine et ?_
  refine ws ?_
  refine ws ?_
  obtain ⟨v_1, e_2, h⟩ := bind_some h
  refine st_reg mixed (by kernel_rfl) hS ?_
  refine cg (sp_load ty23 (od rfl)) ?_
  refine cg (sp_call en22 (f22_ok e_2) ⟨od rfl, odi, odi, trivial⟩) ?_
  refine cg (sp_not (od rfl)) ?_
  refine sn fun a w hS => ?_
  refine et ?_
  refine st_cond hS rfl (fun hb => ?_) (fun hb => ?_)
  · have h := ite_t hb h
    refine ws ?_
    refine st_reg mixed (by kernel_rfl) hS ?_
    refine cg (sp_assign (φ := isV ((⟨#[]⟩ : ByteArray) : ByteArray)) (ods)) ?_
    refine cg (sp_assign (odi)) ?_
    refine sn fun a w hS => ?_
    refine et ?_
    refine wp_ret ?_
    refine exit_thenR ?_
    cases h
    exact st_ret hS (run_results2 Tryz.results5 a w) (⟨_, rfl, hS.get rfl, hS.get rfl, trivial⟩)
  have h := ite_f hb h
  refine wp_skip ?_
  refine et ?_
  refine ws ?_
  refine st_reg mixed (by kernel_rfl) hS ?_
  refine cg (sp_assign (φ := Pr.is (.slice none 0 0)) (odc fun _ => rfl)) ?_
  refine sn fun a w hS => ?_
  have hS := st_nil (α := ByteArray) 9 hS
  have hS : St _ F0 [Item.sl (α := ByteArray) 9 (.slice none 0 0) ([] : List ByteArray)] _ w0 _ _ := hS
  refine et ?_
  refine ws ?_
  refine ws ?_
  refine st_reg mixed (by kernel_rfl) hS ?_
  refine cg (sp_fieldAddr fd23_0 (od rfl)) ?_
  refine cg (sp_load ty3 (od rfl)) ?_
  refine cg (sp_fieldAddr fd23_1 (od rfl)) ?_
  refine cg (sp_load ty3 (od rfl)) ?_
  refine cg (sp_fieldAddr fd23_2 (od rfl)) ?_
  refine cg (sp_load ty3 (od rfl)) ?_
  refine cg (sp_fieldAddr fd23_3 (od rfl)) ?_
  refine cg (sp_load ty3 (od rfl)) ?_
  refine cg (bd61 (od rfl) (od rfl) (od rfl) (od rfl)) ?_
  refine cg (sp_move (odi)) ?_
  refine sn fun a w hS => ?_
  refine et ?_
  refine wp_block ?_
  obtain ⟨o_6, e_7, hr_8⟩ := bind_some h
  refine c_loop (fun K a w => ∃ k i_3 s_5, ∃ u_9 : Value, K = k + 1 ∧ ForT _ _ _ o_6 k i_3 s_5 ∧ St 30 F0 [Item.sl (α := ByteArray) 9 u_9 s_5] [(4, Pr.is u_9), (18, isV (α := Vector Int 4) (#v[p0.1, p0.2.1, p0.2.2.1, p0.2.2.2] : Vector Int 4)), (19, isV (α := Int) i_3)] w0 a w) ?_ ?_ ⟨_, _, _, (.slice none 0 0), rfl, fors_init e_7, hS.weak ⟨od rfl, od rfl, od rfl, trivial⟩⟩
  · rintro a w ⟨_, _, _, _, hk, _⟩; cases hk
  rintro K a w ⟨k_6, i_3, s_5, u_9, hk, hF_6, hS⟩
  obtain rfl := Nat.succ.inj hk
  refine ws ?_
  refine st_reg mixed (by kernel_rfl) hS ?_
  refine cg (sp_lss (od rfl) (odi)) ?_
  refine sn fun a w hS => ?_
  refine et ?_
  refine ws ?_
  refine st_cond hS rfl (fun hb => ?_) (fun hb => ?_)
  · refine wp_skip ?_
    refine et ?_
    obtain ⟨k_6, s', rfl, h, hF_6, hw_6⟩ := fors_more hF_6 hb
    refine ws ?_
    refine wp_block ?_
    refine ws ?_
    obtain ⟨v_10, e_11, h⟩ := bind_some h
    refine st_reg mixed (by kernel_rfl) hS ?_
    refine cg (sp_indexA ar61 (od rfl) (od rfl) e_11) ?_
    refine cg (sp_assign (od rfl)) ?_
    refine sn fun a w hS => ?_
    refine et ?_
    obtain ⟨v_12, e_13, h⟩ := bind_some h
    obtain ⟨z_14, e_15, h⟩ := bind_some h
    refine l_start ?_
    refine s_c hS (sg (sp_move (od rfl))) rfl fun a w hS hM => ?_
    refine s_c hS (sg (sp_move (od rfl))) rfl fun a w hS hM => ?_
    refine s_callT en23 (f23_ok e_13) hT hS ⟨od rfl, trivial⟩ rfl fun a w hS hM => ?_
    refine s_c hS (sg (sp_buildSlice [.tmp 24] ([v_12] : List ByteArray) sl60 ze9 rfl rfl rfl rfl ⟨od rfl, trivial⟩)) rfl fun a w hS hM => ?_
    refine s_append (k := 0) (Δ := [(18, isV (α := Vector Int 4) (#v[p0.1, p0.2.1, p0.2.2.1, p0.2.2.2] : Vector Int 4)), (19, isV (α := Int) i_3), (22, Pr.is u_9), (25, isV (α := List ByteArray) ([v_12] : List ByteArray))]) sl60 ze9 hS rfl ⟨od rfl, od rfl, od rfl, od rfl, trivial⟩ ⟨fun _ _ _ _ h => h, fun _ _ _ _ h => h, fun _ _ _ _ h => h, fun _ _ _ _ h => h, trivial⟩ (od rfl) (od rfl) e_15 rfl fun a w u_16 hS hM => ?_
    have hS : St _ F0 [Item.sl (α := ByteArray) 9 u_16 z_14] _ w0 _ _ := hS
    refine s_c hS (sg (sp_assign (od rfl))) rfl fun a w hS hM => ?_
    refine l_end ?_
    refine exit_block ?_
    refine et ?_
    refine st_reg mixed (by kernel_rfl) hS ?_
    refine cg (sp_add (od rfl) (odi)) ?_
    refine mv rfl ?_
    refine sn fun a w hS => ?_
    cases h
    exact ⟨k_6, _, _, u_16, rfl, hF_6, hS.weak ⟨od rfl, od rfl, od (congrArg (fun z => some (isV (α := Int) z)) hw_6), trivial⟩⟩
  refine wp_exit ?_
  obtain rfl := (fors_done hF_6 hb).symm
  have h := hr_8
  refine exit_thenE ?_
  refine exit_thenE ?_
  refine exit_here ?_
  refine et ?_
  refine ws ?_
  have hS := st_freeze 0 4 hS rfl rfl
  obtain ⟨v_17, e_18, h⟩ := bind_some h
  refine st_reg mixed (by kernel_rfl) hS ?_
  refine mv rfl ?_
  refine cg (sp_call en24 (f24_ok e_18) ⟨od rfl, ods, trivial⟩) ?_
  refine cg (sp_assign (od rfl)) ?_
  refine cg (sp_assign (odi)) ?_
  refine sn fun a w hS => ?_
  refine et ?_
  refine wp_ret ?_
  cases h
  exact st_ret hS (run_results2 Tryz.results5 a w) (⟨_, rfl, hS.get rfl, hS.get rfl, trivial⟩)

theorem f51_ok {p0 : Int} {p1 : Int} {p2 : Int} {r : Bool} (h : M.f51 p0 p1 p2 = some r) : CallOK Tryz.prog 51 [isV p0, isV p1, isV p2] (isV r) := by
  unfold M.f51 at h
  refine callS_of Tryz.func51 rfl Tryz.ntmps51 rfl fun F0 w0 a hS => ?_
  refine ws ?_
  refine st_reg mixed (by kernel_rfl) hS ?_
  refine cg (sp_assign (odb)) ?_
  refine sn fun a w hS => ?_
  refine et ?_
  refine ws ?_
  refine st_reg mixed (by kernel_rfl) hS ?_
  refine mv rfl ?_
  refine mv rfl ?_
  refine cg (sp_geq (od rfl) (od rfl)) ?_
  refine mv rfl ?_
  refine sc (sgT rfl fun hG => sp_move (od rfl)) ?_
  refine sc (sgT rfl fun hG => sp_move (od rfl)) ?_
  refine sc (sgT rfl fun hG => sp_leq (odw rfl hG) (odw rfl hG)) ?_
  refine cg (sp_pickAnd (od rfl) fun hg => odw rfl hg) ?_
  refine cg (sp_assign (od rfl)) ?_
  refine sn fun a w hS => ?_
  refine et ?_
  refine wp_ret ?_
  cases h
  exact st_ret hS (run_results1 Tryz.results51 a w) (hS.get rfl)

theorem f25_ok {p0 : S_api_Offer} {p1 : Int} {p2 : Int} {r : Bool} (h : M.f25 p0 p1 p2 = some r) : CallOK Tryz.prog 25 [isV p0, isV p1, isV p2] (isV r) := by
  unfold M.f25 at h
  refine callS_of Tryz.func25 rfl Tryz.ntmps25 rfl fun F0 w0 a hS => ?_
  refine ws ?_
  refine st_reg mixed (by kernel_rfl) hS ?_
  refine cg (sp_box (od rfl)) ?_
  refine cg (sp_assign (odb)) ?_
  refine sn fun a w hS => ?_
  refine et ?_
  refine ws ?_
  obtain ⟨v_1, e_2, h⟩ := bind_some h
  obtain ⟨v_3, e_4, h⟩ := bind_some h
  obtain ⟨v_5, e_6, h⟩ := bind_some h
  obtain ⟨v_7, e_8, h⟩ := bind_some h
  refine st_reg mixed (by kernel_rfl) hS ?_
  refine cg (sp_fieldAddr fd23_0 (od rfl)) ?_
  refine cg (sp_load ty3 (od rfl)) ?_
  refine mv rfl ?_
  refine cg (sp_sub (od rfl) (odi)) ?_
  refine cg (sp_call en51 (f51_ok e_2) ⟨od rfl, odi, od rfl, trivial⟩) ?_
  refine mv rfl ?_
  refine sc (sgT rfl fun hG => sp_fieldAddr fd23_1 (od rfl)) ?_
  refine sc (sgT rfl fun hG => sp_load ty3 (odw rfl hG)) ?_
  refine sc (sgT rfl fun hG => sp_move (od rfl)) ?_
  refine sc (sgT rfl fun hG => sp_sub (odw rfl hG) (odi)) ?_
  refine sc (sgT rfl fun hG => sp_call en51 (f51_ok (guard_some e_4 hG)) ⟨odw rfl hG, odi, odw rfl hG, trivial⟩) ?_
  refine cg (sp_pickAnd (od rfl) fun hg => odw rfl hg) ?_
  refine mv rfl ?_
  refine sc (sgT rfl fun hG => sp_fieldAddr fd23_0 (od rfl)) ?_
  refine sc (sgT rfl fun hG => sp_load ty3 (odw rfl hG)) ?_
  refine sc (sgT rfl fun hG => sp_fieldAddr fd23_1 (od rfl)) ?_
  refine sc (sgT rfl fun hG => sp_load ty3 (odw rfl hG)) ?_
  refine sc (sgT rfl fun hG => sp_neq (odw rfl hG) (odw rfl hG)) ?_
  refine cg (sp_pickAnd (od rfl) fun hg => odw rfl hg) ?_
  refine mv rfl ?_
  refine sc (sgT rfl fun hG => sp_fieldAddr fd23_2 (od rfl)) ?_
  refine sc (sgT rfl fun hG => sp_load ty3 (odw rfl hG)) ?_
  refine sc (sgT rfl fun hG => sp_move (od rfl)) ?_
  refine sc (sgT rfl fun hG => sp_call en51 (f51_ok (guard_some e_6 hG)) ⟨odw rfl hG, odi, odw rfl hG, trivial⟩) ?_
  refine cg (sp_pickAnd (od rfl) fun hg => odw rfl hg) ?_
  refine mv rfl ?_
  refine sc (sgT rfl fun hG => sp_fieldAddr fd23_3 (od rfl)) ?_
  refine sc (sgT rfl fun hG => sp_load ty3 (odw rfl hG)) ?_
  refine sc (sgT rfl fun hG => sp_call en51 (f51_ok (guard_some e_8 hG)) ⟨odw rfl hG, odi, odi, trivial⟩) ?_
  refine cg (sp_pickAnd (od rfl) fun hg => odw rfl hg) ?_
  refine cg (sp_assign (od rfl)) ?_
  refine sn fun a w hS => ?_
  refine et ?_
  refine wp_ret ?_
  cases h
  exact st_ret hS (run_results1 Tryz.results25 a w) (hS.get rfl)

theorem f6_ok {p0 : S_api_Offer} {r : ByteArray × Int} (h : M.f6 p0 = some r) : CallT Tryz.prog 6 [isV p0] (isTup [isV r.1, isV r.2]) := by
  unfold M.f6 at h
  refine callT_of Tryz.func6 rfl Tryz.ntmps6 rfl fun F0 w0 a hT hS => ?_
  refine ws ?_
  refine st_reg mixed (by kernel_rfl) hS ?_
  refine cg (sp_box (od rfl)) ?_
  refine cg (sp_assign (φ := isV ((⟨#[]⟩ : ByteArray) : ByteArray)) (ods)) ?_
  refine cg (sp_assign (odi)) ?_
  refine sn fun a w hS => ?_
  refine et ?_
  refine ws ?_
  refine ws ?_
  obtain ⟨v_1, e_2, h⟩ := bind_some h
  refine st_reg mixed (by kernel_rfl) hS ?_
  refine cg (sp_load ty23 (od rfl)) ?_
  refine cg (sp_call en25 (f25_ok e_2) ⟨od rfl, odi, odi, trivial⟩) ?_
  refine cg (sp_not (od rfl)) ?_
  refine sn fun a w hS => ?_
  refine et ?_
  refine st_cond hS rfl (fun hb => ?_) (fun hb => ?_)
  · have h := ite_t hb h
    refine ws ?_
    refine st_reg mixed (by kernel_rfl) hS ?_
    refine cg (sp_assign (φ := isV ((⟨#[]⟩ : ByteArray) : ByteArray)) (ods)) ?_
    refine cg (sp_assign (odi)) ?_
    refine sn fun a w hS => ?_
    refine et ?_
    refine wp_ret ?_
    refine exit_thenR ?_
    cases h
    exact st_ret hS (run_results2 Tryz.results6 a w) (⟨_, rfl, hS.get rfl, hS.get rfl, trivial⟩)
  have h := ite_f hb h
  refine wp_skip ?_
  refine et ?_
  refine ws ?_
  obtain ⟨v_3, e_4, h⟩ := bind_some h
  obtain ⟨v_5, e_6, h⟩ := bind_some h
  obtain ⟨v_7, e_8, h⟩ := bind_some h
  obtain ⟨v_9, e_10, h⟩ := bind_some h
  obtain ⟨v_11, e_12, h⟩ := bind_some h
  obtain ⟨v_13, e_14, h⟩ := bind_some h
  obtain ⟨v_15, e_16, h⟩ := bind_some h
  obtain ⟨v_17, e_18, h⟩ := bind_some h
  obtain ⟨v_19, e_20, h⟩ := bind_some h
  obtain ⟨v_21, e_22, h⟩ := bind_some h
  refine wp_mono (Q := fun e a w => e = Exit.normal ∧ St 25 F0 [] [(2, isV (α := ByteArray) v_21), (3, isV (α := Int) 0)] w0 a w) ?_ ?_
  · refine st_floatA mixed [0, 0, 2, 2, 1, 1, 2, 2, 2, 1, 1, 2, 2, 2, 1, 1, 2, 2, 2, 2] [2, 3, 6, 7, 8, 11, 12, 13, 16, 17, 18, 19] 12 (by kernel_rfl) (by kernel_rfl) (by kernel_rfl) rfl hS ?_
    refine sfA (sg (sp_fieldAddr fd23_0 (od rfl))) ?_
    refine sfA (sg (sp_load ty3 (od rfl))) ?_
    refine sfT ?_
    refine sfT ?_
    refine sfF (sy (sy_fieldAddr fd23_1 (od rfl))) ?_
    refine sfF (sy (sy_load ty3 (od rfl))) ?_
    refine sfT ?_
    refine sfT ?_
    refine sfT ?_
    refine sfF (sy (sy_fieldAddr fd23_2 (od rfl))) ?_
    refine sfF (sy (sy_load ty3 (od rfl))) ?_
    refine sfT ?_
    refine sfT ?_
    refine sfT ?_
    refine sfF (sy (sy_fieldAddr fd23_3 (od rfl))) ?_
    refine sfF (sy (sy_load ty3 (od rfl))) ?_
    refine sfT ?_
    refine sfT ?_
    refine sfT ?_
    refine sfT ?_
    refine sfN fun c a w hS hC => ?_
    refine anyT_of [2] (by kernel_rfl) ?_
    refine allR_cons rfl ?_ ?_
    · skip
      refine s_callT en23 (f23_ok e_4) hT hS ⟨od rfl, trivial⟩ rfl fun a w hS hM => ?_
      have hC := Mem.le_trans hC hM
      refine s_nextA hC ?_
      refine anyT_of [3, 6] (by kernel_rfl) ?_
      refine allR_cons rfl ?_ ?_
      · skip
        refine s_c hS (sg (sp_cat (od rfl) (ods) e_6)) rfl fun a w hS hM => ?_
        have hC := Mem.le_trans hC hM
        refine s_nextA hC ?_
        refine anyT_of [6] (by kernel_rfl) ?_
        refine allR_cons rfl ?_ ?_
        · skip
          refine s_callT en23 (f23_ok e_8) hT hS ⟨od rfl, trivial⟩ rfl fun a w hS hM => ?_
          have hC := Mem.le_trans hC hM
          refine s_nextA hC ?_
          refine anyT_of [7, 11] (by kernel_rfl) ?_
          refine allR_cons rfl ?_ ?_
          · skip
            refine s_c hS (sg (sp_cat (od rfl) (od rfl) e_10)) rfl fun a w hS hM => ?_
            have hC := Mem.le_trans hC hM
            refine s_nextA hC ?_
            refine anyT_of [8, 11] (by kernel_rfl) ?_
            refine allR_cons rfl ?_ ?_
            · skip
              refine s_c hS (sg (sp_cat (od rfl) (ods) e_12)) rfl fun a w hS hM => ?_
              have hC := Mem.le_trans hC hM
              refine s_nextA hC ?_
              refine anyT_of [11] (by kernel_rfl) ?_
              refine allR_cons rfl ?_ ?_
              · skip
                refine s_callT en23 (f23_ok e_14) hT hS ⟨od rfl, trivial⟩ rfl fun a w hS hM => ?_
                have hC := Mem.le_trans hC hM
                refine s_nextA hC ?_
                refine anyT_of [12, 16] (by kernel_rfl) ?_
                refine allR_cons rfl ?_ ?_
                · skip
                  refine s_c hS (sg (sp_cat (od rfl) (od rfl) e_16)) rfl fun a w hS hM => ?_
                  have hC := Mem.le_trans hC hM
                  refine s_nextA hC ?_
                  refine anyT_of [13, 16] (by kernel_rfl) ?_
                  refine allR_cons rfl ?_ ?_
                  · skip
                    refine s_c hS (sg (sp_cat (od rfl) (ods) e_18)) rfl fun a w hS hM => ?_
                    have hC := Mem.le_trans hC hM
                    refine s_nextA hC ?_
                    refine anyT_of [16] (by kernel_rfl) ?_
                    refine allR_cons rfl ?_ ?_
                    · skip
                      refine s_callT en23 (f23_ok e_20) hT hS ⟨od rfl, trivial⟩ rfl fun a w hS hM => ?_
                      have hC := Mem.le_trans hC hM
                      refine s_nextA hC ?_
                      refine anyT_of [17] (by kernel_rfl) ?_
                      refine allR_cons rfl ?_ ?_
                      · skip
                        refine s_c hS (sg (sp_cat (od rfl) (od rfl) e_22)) rfl fun a w hS hM => ?_
                        have hC := Mem.le_trans hC hM
                        refine s_nextA hC ?_
                        refine anyT_of [18] (by kernel_rfl) ?_
                        refine allR_cons rfl ?_ ?_
                        · skip
                          refine s_c hS (sg (sp_assign (od rfl))) rfl fun a w hS hM => ?_
                          have hC := Mem.le_trans hC hM
                          refine s_nextA hC ?_
                          refine anyT_of [19] (by kernel_rfl) ?_
                          refine allR_cons rfl ?_ ?_
                          · skip
                            refine s_c hS (sg (sp_assign (odi))) rfl fun a w hS hM => ?_
                            have hC := Mem.le_trans hC hM
                            refine s_nextA hC ?_
                            refine anyT_done ?_
                            exact ⟨rfl, hS.weak ⟨od rfl, od rfl, trivial⟩⟩
                          exact allR_nil
                        exact allR_nil
                      exact allR_nil
                    exact allR_nil
                  refine allR_cons rfl ?_ ?_
                  · skip
                    refine s_callT en23 (f23_ok e_20) hT hS ⟨od rfl, trivial⟩ rfl fun a w hS hM => ?_
                    have hC := Mem.le_trans hC hM
                    refine s_nextA hC ?_
                    refine anyT_of [13] (by kernel_rfl) ?_
                    refine allR_cons rfl ?_ ?_
                    · skip
                      refine s_c hS (sg (sp_cat (od rfl) (ods) e_18)) rfl fun a w hS hM => ?_
                      have hC := Mem.le_trans hC hM
                      refine s_nextA hC ?_
                      refine anyT_of [17] (by kernel_rfl) ?_
                      refine allR_cons rfl ?_ ?_
                      · skip
                        refine s_c hS (sg (sp_cat (od rfl) (od rfl) e_22)) rfl fun a w hS hM => ?_
                        have hC := Mem.le_trans hC hM
                        refine s_nextA hC ?_
                        refine anyT_of [18] (by kernel_rfl) ?_
                        refine allR_cons rfl ?_ ?_
                        · skip
                          refine s_c hS (sg (sp_assign (od rfl))) rfl fun a w hS hM => ?_
                          have hC := Mem.le_trans hC hM
                          refine s_nextA hC ?_
                          refine anyT_of [19] (by kernel_rfl) ?_
                          refine allR_cons rfl ?_ ?_
                          · skip
                            refine s_c hS (sg (sp_assign (odi))) rfl fun a w hS hM => ?_
                            have hC := Mem.le_trans hC hM
                            refine s_nextA hC ?_
                            refine anyT_done ?_
                            exact ⟨rfl, hS.weak ⟨od rfl, od rfl, trivial⟩⟩
                          exact allR_nil
                        exact allR_nil
                      exact allR_nil
                    exact allR_nil
                  exact allR_nil
                refine allR_cons rfl ?_ ?_
                · skip
                  refine s_callT en23 (f23_ok e_20) hT hS ⟨od rfl, trivial⟩ rfl fun a w hS hM => ?_
                  have hC := Mem.le_trans hC hM
                  refine s_nextA hC ?_
                  refine anyT_of [12] (by kernel_rfl) ?_
                  refine allR_cons rfl ?_ ?_
                  · skip
                    refine s_c hS (sg (sp_cat (od rfl) (od rfl) e_16)) rfl fun a w hS hM => ?_
                    have hC := Mem.le_trans hC hM
                    refine s_nextA hC ?_
                    refine anyT_of [13] (by kernel_rfl) ?_
                    refine allR_cons rfl ?_ ?_
                    · skip
                      refine s_c hS (sg (sp_cat (od rfl) (ods) e_18)) rfl fun a w hS hM => ?_
                      have hC := Mem.le_trans hC hM
                      refine s_nextA hC ?_
                      refine anyT_of [17] (by kernel_rfl) ?_
                      refine allR_cons rfl ?_ ?_
                      · skip
                        refine s_c hS (sg (sp_cat (od rfl) (od rfl) e_22)) rfl fun a w hS hM => ?_
                        have hC := Mem.le_trans hC hM
                        refine s_nextA hC ?_
                        refine anyT_of [18] (by kernel_rfl) ?_
                        refine allR_cons rfl ?_ ?_
                        · skip
                          refine s_c hS (sg (sp_assign (od rfl))) rfl fun a w hS hM => ?_
                          have hC := Mem.le_trans hC hM
                          refine s_nextA hC ?_
                          refine anyT_of [19] (by kernel_rfl) ?_
                          refine allR_cons rfl ?_ ?_
                          · skip
                            refine s_c hS (sg (sp_assign (odi))) rfl fun a w hS hM => ?_
                            have hC := Mem.le_trans hC hM
                            refine s_nextA hC ?_
                            refine anyT_done ?_
                            exact ⟨rfl, hS.weak ⟨od rfl, od rfl, trivial⟩⟩
                          exact allR_nil
                        exact allR_nil
                      exact allR_nil
                    exact allR_nil
                  exact allR_nil
                exact allR_nil
              exact allR_nil
            refine allR_cons rfl ?_ ?_
            · skip
              refine s_callT en23 (f23_ok e_14) hT hS ⟨od rfl, trivial⟩ rfl fun a w hS hM => ?_
              have hC := Mem.le_trans hC hM
              refine s_nextA hC ?_
              refine anyT_of [8, 16] (by kernel_rfl) ?_
              refine allR_cons rfl ?_ ?_
              · skip
                refine s_c hS (sg (sp_cat (od rfl) (ods) e_12)) rfl fun a w hS hM => ?_
                have hC := Mem.le_trans hC hM
                refine s_nextA hC ?_
                refine anyT_of [12, 16] (by kernel_rfl) ?_
                refine allR_cons rfl ?_ ?_
                · skip
                  refine s_c hS (sg (sp_cat (od rfl) (od rfl) e_16)) rfl fun a w hS hM => ?_
                  have hC := Mem.le_trans hC hM
                  refine s_nextA hC ?_
                  refine anyT_of [13, 16] (by kernel_rfl) ?_
                  refine allR_cons rfl ?_ ?_
                  · skip
                    refine s_c hS (sg (sp_cat (od rfl) (ods) e_18)) rfl fun a w hS hM => ?_
                    have hC := Mem.le_trans hC hM
                    refine s_nextA hC ?_
                    refine anyT_of [16] (by kernel_rfl) ?_
                    refine allR_cons rfl ?_ ?_
                    · skip
                      refine s_callT en23 (f23_ok e_20) hT hS ⟨od rfl, trivial⟩ rfl fun a w hS hM => ?_
                      have hC := Mem.le_trans hC hM
                      refine s_nextA hC ?_
                      refine anyT_of [17] (by kernel_rfl) ?_
                      refine allR_cons rfl ?_ ?_
                      · skip
                        refine s_c hS (sg (sp_cat (od rfl) (od rfl) e_22)) rfl fun a w hS hM => ?_
                        have hC := Mem.le_trans hC hM
                        refine s_nextA hC ?_
                        refine anyT_of [18] (by kernel_rfl) ?_
                        refine allR_cons rfl ?_ ?_
                        · skip
                          refine s_c hS (sg (sp_assign (od rfl))) rfl fun a w hS hM => ?_
                          have hC := Mem.le_trans hC hM
                          refine s_nextA hC ?_
                          refine anyT_of [19] (by kernel_rfl) ?_
                          refine allR_cons rfl ?_ ?_
                          · skip
                            refine s_c hS (sg (sp_assign (odi))) rfl fun a w hS hM => ?_
                            have hC := Mem.le_trans hC hM
                            refine s_nextA hC ?_
                            refine anyT_done ?_
                            exact ⟨rfl, hS.weak ⟨od rfl, od rfl, trivial⟩⟩
                          exact allR_nil
                        exact allR_nil
                      exact allR_nil
                    exact allR_nil
                  refine allR_cons rfl ?_ ?_
                  · skip
                    refine s_callT en23 (f23_ok e_20) hT hS ⟨od rfl, trivial⟩ rfl fun a w hS hM => ?_
                    have hC := Mem.le_trans hC hM
                    refine s_nextA hC ?_
                    refine anyT_of [13] (by kernel_rfl) ?_
                    refine allR_cons rfl ?_ ?_
                    · skip
                      refine s_c hS (sg (sp_cat (od rfl) (ods) e_18)) rfl fun a w hS hM => ?_
                      have hC := Mem.le_trans hC hM
                      refine s_nextA hC ?_
                      refine anyT_of [17] (by kernel_rfl) ?_
                      refine allR_cons rfl ?_ ?_
                      · skip
                        refine s_c hS (sg (sp_cat (od rfl) (od rfl) e_22)) rfl fun a w hS hM => ?_
                        have hC := Mem.le_trans hC hM
                        refine s_nextA hC ?_
                        refine anyT_of [18] (by kernel_rfl) ?_
                        refine allR_cons rfl ?_ ?_
                        · skip
                          refine s_c hS (sg (sp_assign (od rfl))) rfl fun a w hS hM => ?_
                          have hC := Mem.le_trans hC hM
                          refine s_nextA hC ?_
                          refine anyT_of [19] (by kernel_rfl) ?_
                          refine allR_cons rfl ?_ ?_
                          · skip
                            refine s_c hS (sg (sp_assign (odi))) rfl fun a w hS hM => ?_
                            have hC := Mem.le_trans hC hM
                            refine s_nextA hC ?_
                            refine anyT_done ?_
                            exact ⟨rfl, hS.weak ⟨od rfl, od rfl, trivial⟩⟩
                          exact allR_nil
                        exact allR_nil
                      exact allR_nil
                    exact allR_nil
                  exact allR_nil
                refine allR_cons rfl ?_ ?_
                · skip
                  refine s_callT en23 (f23_ok e_20) hT hS ⟨od rfl, trivial⟩ rfl fun a w hS hM => ?_
                  have hC := Mem.le_trans hC hM
                  refine s_nextA hC ?_
                  refine anyT_of [12] (by kernel_rfl) ?_
                  refine allR_cons rfl ?_ ?_
                  · skip
                    refine s_c hS (sg (sp_cat (od rfl) (od rfl) e_16)) rfl fun a w hS hM => ?_
                    have hC := Mem.le_trans hC hM
                    refine s_nextA hC ?_
                    refine anyT_of [13] (by kernel_rfl) ?_
                    refine allR_cons rfl ?_ ?_
                    · skip
                      refine s_c hS (sg (sp_cat (od rfl) (ods) e_18)) rfl fun a w hS hM => ?_
                      have hC := Mem.le_trans hC hM
                      refine s_nextA hC ?_
                      refine anyT_of [17] (by kernel_rfl) ?_
                      refine allR_cons rfl ?_ ?_
                      · skip
                        refine s_c hS (sg (sp_cat (od rfl) (od rfl) e_22)) rfl fun a w hS hM => ?_
                        have hC := Mem.le_trans hC hM
                        refine s_nextA hC ?_
                        refine anyT_of [18] (by kernel_rfl) ?_
                        refine allR_cons rfl ?_ ?_
                        · skip
                          refine s_c hS (sg (sp_assign (od rfl))) rfl fun a w hS hM => ?_
                          have hC := Mem.le_trans hC hM
                          refine s_nextA hC ?_
                          refine anyT_of [19] (by kernel_rfl) ?_
                          refine allR_cons rfl ?_ ?_
                          · skip
                            refine s_c hS (sg (sp_assign (odi))) rfl fun a w hS hM => ?_
                            have hC := Mem.le_trans hC hM
                            refine s_nextA hC ?_
                            refine anyT_done ?_
                            exact ⟨rfl, hS.weak ⟨od rfl, od rfl, trivial⟩⟩
                          exact allR_nil
                        exact allR_nil
                      exact allR_nil
                    exact allR_nil
                  exact allR_nil
                exact allR_nil
              refine allR_cons rfl ?_ ?_
              · skip
                refine s_callT en23 (f23_ok e_20) hT hS ⟨od rfl, trivial⟩ rfl fun a w hS hM => ?_
                have hC := Mem.le_trans hC hM
                refine s_nextA hC ?_
                refine anyT_of [8] (by kernel_rfl) ?_
                refine allR_cons rfl ?_ ?_
                · skip
                  refine s_c hS (sg (sp_cat (od rfl) (ods) e_12)) rfl fun a w hS hM => ?_
                  have hC := Mem.le_trans hC hM
                  refine s_nextA hC ?_
                  refine anyT_of [12] (by kernel_rfl) ?_
                  refine allR_cons rfl ?_ ?_
                  · skip
                    refine s_c hS (sg (sp_cat (od rfl) (od rfl) e_16)) rfl fun a w hS hM => ?_
                    have hC := Mem.le_trans hC hM
                    refine s_nextA hC ?_
                    refine anyT_of [13] (by kernel_rfl) ?_
                    refine allR_cons rfl ?_ ?_
                    · skip
                      refine s_c hS (sg (sp_cat (od rfl) (ods) e_18)) rfl fun a w hS hM => ?_
                      have hC := Mem.le_trans hC hM
                      refine s_nextA hC ?_
                      refine anyT_of [17] (by kernel_rfl) ?_
                      refine allR_cons rfl ?_ ?_
                      · skip
                        refine s_c hS (sg (sp_cat (od rfl) (od rfl) e_22)) rfl fun a w hS hM => ?_
                        have hC := Mem.le_trans hC hM
                        refine s_nextA hC ?_
                        refine anyT_of [18] (by kernel_rfl) ?_
                        refine allR_cons rfl ?_ ?_
                        · skip
                          refine s_c hS (sg (sp_assign (od rfl))) rfl fun a w hS hM => ?_
                          have hC := Mem.le_trans hC hM
                          refine s_nextA hC ?_
                          refine anyT_of [19] (by kernel_rfl) ?_
                          refine allR_cons rfl ?_ ?_
                          · skip
                            refine s_c hS (sg (sp_assign (odi))) rfl fun a w hS hM => ?_
                            have hC := Mem.le_trans hC hM
                            refine s_nextA hC ?_
                            refine anyT_done ?_
                            exact ⟨rfl, hS.weak ⟨od rfl, od rfl, trivial⟩⟩
                          exact allR_nil
                        exact allR_nil
                      exact allR_nil
                    exact allR_nil
                  exact allR_nil
                exact allR_nil
              exact allR_nil
            exact allR_nil
          refine allR_cons rfl ?_ ?_
          · skip
            refine s_callT en23 (f23_ok e_14) hT hS ⟨od rfl, trivial⟩ rfl fun a w hS hM => ?_
            have hC := Mem.le_trans hC hM
            refine s_nextA hC ?_
            refine anyT_of [7, 16] (by kernel_rfl) ?_
            refine allR_cons rfl ?_ ?_
            · skip
              refine s_c hS (sg (sp_cat (od rfl) (od rfl) e_10)) rfl fun a w hS hM => ?_
              have hC := Mem.le_trans hC hM
              refine s_nextA hC ?_
              refine anyT_of [8, 16] (by kernel_rfl) ?_
              refine allR_cons rfl ?_ ?_
              · skip
                refine s_c hS (sg (sp_cat (od rfl) (ods) e_12)) rfl fun a w hS hM => ?_
                have hC := Mem.le_trans hC hM
                refine s_nextA hC ?_
                refine anyT_of [12, 16] (by kernel_rfl) ?_
                refine allR_cons rfl ?_ ?_
                · skip
                  refine s_c hS (sg (sp_cat (od rfl) (od rfl) e_16)) rfl fun a w hS hM => ?_
                  have hC := Mem.le_trans hC hM
                  refine s_nextA hC ?_
                  refine anyT_of [13, 16] (by kernel_rfl) ?_
                  refine allR_cons rfl ?_ ?_
                  · skip
                    refine s_c hS (sg (sp_cat (od rfl) (ods) e_18)) rfl fun a w hS hM => ?_
                    have hC := Mem.le_trans hC hM
                    refine s_nextA hC ?_
                    refine anyT_of [16] (by kernel_rfl) ?_
                    refine allR_cons rfl ?_ ?_
                    · skip
                      refine s_callT en23 (f23_ok e_20) hT hS ⟨od rfl, trivial⟩ rfl fun a w hS hM => ?_
                      have hC := Mem.le_trans hC hM
                      refine s_nextA hC ?_
                      refine anyT_of [17] (by kernel_rfl) ?_
                      refine allR_cons rfl ?_ ?_
                      · skip
                        refine s_c hS (sg (sp_cat (od rfl) (od rfl) e_22)) rfl fun a w hS hM => ?_
                        have hC := Mem.le_trans hC hM
                        refine s_nextA hC ?_
                        refine anyT_of [18] (by kernel_rfl) ?_
                        refine allR_cons rfl ?_ ?_
                        · skip
                          refine s_c hS (sg (sp_assign (od rfl))) rfl fun a w hS hM => ?_
                          have hC := Mem.le_trans hC hM
                          refine s_nextA hC ?_
                          refine anyT_of [19] (by kernel_rfl) ?_
                          refine allR_cons rfl ?_ ?_
                          · skip
                            refine s_c hS (sg (sp_assign (odi))) rfl fun a w hS hM => ?_
                            have hC := Mem.le_trans hC hM
                            refine s_nextA hC ?_
                            refine anyT_done ?_
                            exact ⟨rfl, hS.weak ⟨od rfl, od rfl, trivial⟩⟩
                          exact allR_nil
                        exact allR_nil
                      exact allR_nil
                    exact allR_nil
                  refine allR_cons rfl ?_ ?_
                  · skip
                    refine s_callT en23 (f23_ok e_20) hT hS ⟨od rfl, trivial⟩ rfl fun a w hS hM => ?_
                    have hC := Mem.le_trans hC hM
                    refine s_nextA hC ?_
                    refine anyT_of [13] (by kernel_rfl) ?_
                    refine allR_cons rfl ?_ ?_
                    · skip
                      refine s_c hS (sg (sp_cat (od rfl) (ods) e_18)) rfl fun a w hS hM => ?_
                      have hC := Mem.le_trans hC hM
                      refine s_nextA hC ?_
                      refine anyT_of [17] (by kernel_rfl) ?_
                      refine allR_cons rfl ?_ ?_
                      · skip
                        refine s_c hS (sg (sp_cat (od rfl) (od rfl) e_22)) rfl fun a w hS hM => ?_
                        have hC := Mem.le_trans hC hM
                        refine s_nextA hC ?_
                        refine anyT_of [18] (by kernel_rfl) ?_
                        refine allR_cons rfl ?_ ?_
                        · skip
                          refine s_c hS (sg (sp_assign (od rfl))) rfl fun a w hS hM => ?_
                          have hC := Mem.le_trans hC hM
                          refine s_nextA hC ?_
                          refine anyT_of [19] (by kernel_rfl) ?_
                          refine allR_cons rfl ?_ ?_
                          · skip
                            refine s_c hS (sg (sp_assign (odi))) rfl fun a w hS hM => ?_
                            have hC := Mem.le_trans hC hM
                            refine s_nextA hC ?_
                            refine anyT_done ?_
                            exact ⟨rfl, hS.weak ⟨od rfl, od rfl, trivial⟩⟩
                          exact allR_nil
                        exact allR_nil
                      exact allR_nil
                    exact allR_nil
                  exact allR_nil
                refine allR_cons rfl ?_ ?_
                · skip
                  refine s_callT en23 (f23_ok e_20) hT hS ⟨od rfl, trivial⟩ rfl fun a w hS hM => ?_
                  have hC := Mem.le_trans hC hM
                  refine s_nextA hC ?_
                  refine anyT_of [12] (by kernel_rfl) ?_
                  refine allR_cons rfl ?_ ?_
                  · skip
                    refine s_c hS (sg (sp_cat (od rfl) (od rfl) e_16)) rfl fun a w hS hM => ?_
                    have hC := Mem.le_trans hC hM
                    refine s_nextA hC ?_
                    refine anyT_of [13] (by kernel_rfl) ?_
                    refine allR_cons rfl ?_ ?_
                    · skip
                      refine s_c hS (sg (sp_cat (od rfl) (ods) e_18)) rfl fun a w hS hM => ?_
                      have hC := Mem.le_trans hC hM
                      refine s_nextA hC ?_
                      refine anyT_of [17] (by kernel_rfl) ?_
                      refine allR_cons rfl ?_ ?_
                      · skip
                        refine s_c hS (sg (sp_cat (od rfl) (od rfl) e_22)) rfl fun a w hS hM => ?_
                        have hC := Mem.le_trans hC hM
                        refine s_nextA hC ?_
                        refine anyT_of [18] (by kernel_rfl) ?_
                        refine allR_cons rfl ?_ ?_
                        · skip
                          refine s_c hS (sg (sp_assign (od rfl))) rfl fun a w hS hM => ?_
                          have hC := Mem.le_trans hC hM
                          refine s_nextA hC ?_
                          refine anyT_of [19] (by kernel_rfl) ?_
                          refine allR_cons rfl ?_ ?_
                          · skip
                            refine s_c hS (sg (sp_assign (odi))) rfl fun a w hS hM => ?_
                            have hC := Mem.le_trans hC hM
                            refine s_nextA hC ?_
                            refine anyT_done ?_
                            exact ⟨rfl, hS.weak ⟨od rfl, od rfl, trivial⟩⟩
                          exact allR_nil
                        exact allR_nil
                      exact allR_nil
                    exact allR_nil
                  exact allR_nil
                exact allR_nil
              refine allR_cons rfl ?_ ?_
              · skip
                refine s_callT en23 (f23_ok e_20) hT hS ⟨od rfl, trivial⟩ rfl fun a w hS hM => ?_
                have hC := Mem.le_trans hC hM
                refine s_nextA hC ?_
                refine anyT_of [8] (by kernel_rfl) ?_
                refine allR_cons rfl ?_ ?_
                · skip
                  refine s_c hS (sg (sp_cat (od rfl) (ods) e_12)) rfl fun a w hS hM => ?_
                  have hC := Mem.le_trans hC hM
                  refine s_nextA hC ?_
                  refine anyT_of [12] (by kernel_rfl) ?_
                  refine allR_cons rfl ?_ ?_
                  · skip
                    refine s_c hS (sg (sp_cat (od rfl) (od rfl) e_16)) rfl fun a w hS hM => ?_
                    have hC := Mem.le_trans hC hM
                    refine s_nextA hC ?_
                    refine anyT_of [13] (by kernel_rfl) ?_
                    refine allR_cons rfl ?_ ?_
                    · skip
                      refine s_c hS (sg (sp_cat (od rfl) (ods) e_18)) rfl fun a w hS hM => ?_
                      have hC := Mem.le_trans hC hM
                      refine s_nextA hC ?_
                      refine anyT_of [17] (by kernel_rfl) ?_
                      refine allR_cons rfl ?_ ?_
                      · skip
                        refine s_c hS (sg (sp_cat (od rfl) (od rfl) e_22)) rfl fun a w hS hM => ?_
                        have hC := Mem.le_trans hC hM
                        refine s_nextA hC ?_
                        refine anyT_of [18] (by kernel_rfl) ?_
                        refine allR_cons rfl ?_ ?_
                        · skip
                          refine s_c hS (sg (sp_assign (od rfl))) rfl fun a w hS hM => ?_
                          have hC := Mem.le_trans hC hM
                          refine s_nextA hC ?_
                          refine anyT_of [19] (by kernel_rfl) ?_
                          refine allR_cons rfl ?_ ?_
                          · skip
                            refine s_c hS (sg (sp_assign (odi))) rfl fun a w hS hM => ?_
                            have hC := Mem.le_trans hC hM
                            refine s_nextA hC ?_
                            refine anyT_done ?_
                            exact ⟨rfl, hS.weak ⟨od rfl, od rfl, trivial⟩⟩
                          exact allR_nil
                        exact allR_nil
                      exact allR_nil
                    exact allR_nil
                  exact allR_nil
                exact allR_nil
              exact allR_nil
            refine allR_cons rfl ?_ ?_
            · skip
              refine s_callT en23 (f23_ok e_20) hT hS ⟨od rfl, trivial⟩ rfl fun a w hS hM => ?_
              have hC := Mem.le_trans hC hM
              refine s_nextA hC ?_
              refine anyT_of [7] (by kernel_rfl) ?_
              refine allR_cons rfl ?_ ?_
              · skip
                refine s_c hS (sg (sp_cat (od rfl) (od rfl) e_10)) rfl fun a w hS hM => ?_
                have hC := Mem.le_trans hC hM
                refine s_nextA hC ?_
                refine anyT_of [8] (by kernel_rfl) ?_
                refine allR_cons rfl ?_ ?_
                · skip
                  refine s_c hS (sg (sp_cat (od rfl) (ods) e_12)) rfl fun a w hS hM => ?_
                  have hC := Mem.le_trans hC hM
                  refine s_nextA hC ?_
                  refine anyT_of [12] (by kernel_rfl) ?_
                  refine allR_cons rfl ?_ ?_
                  · skip
                    refine s_c hS (sg (sp_cat (od rfl) (od rfl) e_16)) rfl fun a w hS hM => ?_
                    have hC := Mem.le_trans hC hM
                    refine s_nextA hC ?_
                    refine anyT_of [13] (by kernel_rfl) ?_
                    refine allR_cons rfl ?_ ?_
                    · skip
                      refine s_c hS (sg (sp_cat (od rfl) (ods) e_18)) rfl fun a w hS hM => ?_
                      have hC := Mem.le_trans hC hM
                      refine s_nextA hC ?_
                      refine anyT_of [17] (by kernel_rfl) ?_
                      refine allR_cons rfl ?_ ?_
                      · skip
                        refine s_c hS (sg (sp_cat (od rfl) (od rfl) e_22)) rfl fun a w hS hM => ?_
                        have hC := Mem.le_trans hC hM
                        refine s_nextA hC ?_
                        refine anyT_of [18] (by kernel_rfl) ?_
                        refine allR_cons rfl ?_ ?_
                        · skip
                          refine s_c hS (sg (sp_assign (od rfl))) rfl fun a w hS hM => ?_
                          have hC := Mem.le_trans hC hM
                          refine s_nextA hC ?_
                          refine anyT_of [19] (by kernel_rfl) ?_
                          refine allR_cons rfl ?_ ?_
                          · skip
                            refine s_c hS (sg (sp_assign (odi))) rfl fun a w hS hM => ?_
                            have hC := Mem.le_trans hC hM
                            refine s_nextA hC ?_
                            refine anyT_done ?_
                            exact ⟨rfl, hS.weak ⟨od rfl, od rfl, trivial⟩⟩
                          exact allR_nil
                        exact allR_nil
                      exact allR_nil
                    exact allR_nil
                  exact allR_nil
                exact allR_nil
              exact allR_nil
            exact allR_nil
          exact allR_nil
        exact allR_nil
      refine allR_cons rfl ?_ ?_
      · skip
        refine s_callT en23 (f23_ok e_8) hT hS ⟨od rfl, trivial⟩ rfl fun a w hS hM => ?_
        have hC := Mem.le_trans hC hM
        refine s_nextA hC ?_
        refine anyT_of [3, 11] (by kernel_rfl) ?_
        refine allR_cons rfl ?_ ?_
        · skip
          refine s_c hS (sg (sp_cat (od rfl) (ods) e_6)) rfl fun a w hS hM => ?_
          have hC := Mem.le_trans hC hM
          refine s_nextA hC ?_
          refine anyT_of [7, 11] (by kernel_rfl) ?_
          refine allR_cons rfl ?_ ?_
          · skip
            refine s_c hS (sg (sp_cat (od rfl) (od rfl) e_10)) rfl fun a w hS hM => ?_
            have hC := Mem.le_trans hC hM
            refine s_nextA hC ?_
            refine anyT_of [8, 11] (by kernel_rfl) ?_
            refine allR_cons rfl ?_ ?_
            · skip
              refine s_c hS (sg (sp_cat (od rfl) (ods) e_12)) rfl fun a w hS hM => ?_
              have hC := Mem.le_trans hC hM
              refine s_nextA hC ?_
              refine anyT_of [11] (by kernel_rfl) ?_
              refine allR_cons rfl ?_ ?_
              · skip
                refine s_callT en23 (f23_ok e_14) hT hS ⟨od rfl, trivial⟩ rfl fun a w hS hM => ?_
                have hC := Mem.le_trans hC hM
                refine s_nextA hC ?_
                refine anyT_of [12, 16] (by kernel_rfl) ?_
                refine allR_cons rfl ?_ ?_
                · skip
                  refine s_c hS (sg (sp_cat (od rfl) (od rfl) e_16)) rfl fun a w hS hM => ?_
                  have hC := Mem.le_trans hC hM
                  refine s_nextA hC ?_
                  refine anyT_of [13, 16] (by kernel_rfl) ?_
                  refine allR_cons rfl ?_ ?_
                  · skip
                    refine s_c hS (sg (sp_cat (od rfl) (ods) e_18)) rfl fun a w hS hM => ?_
                    have hC := Mem.le_trans hC hM
                    refine s_nextA hC ?_
                    refine anyT_of [16] (by kernel_rfl) ?_
                    refine allR_cons rfl ?_ ?_
                    · skip
                      refine s_callT en23 (f23_ok e_20) hT hS ⟨od rfl, trivial⟩ rfl fun a w hS hM => ?_
                      have hC := Mem.le_trans hC hM
                      refine s_nextA hC ?_
                      refine anyT_of [17] (by kernel_rfl) ?_
                      refine allR_cons rfl ?_ ?_
                      · skip
                        refine s_c hS (sg (sp_cat (od rfl) (od rfl) e_22)) rfl fun a w hS hM => ?_
                        have hC := Mem.le_trans hC hM
                        refine s_nextA hC ?_
                        refine anyT_of [18] (by kernel_rfl) ?_
                        refine allR_cons rfl ?_ ?_
                        · skip
                          refine s_c hS (sg (sp_assign (od rfl))) rfl fun a w hS hM => ?_
                          have hC := Mem.le_trans hC hM
                          refine s_nextA hC ?_
                          refine anyT_of [19] (by kernel_rfl) ?_
                          refine allR_cons rfl ?_ ?_
                          · skip
                            refine s_c hS (sg (sp_assign (odi))) rfl fun a w hS hM => ?_
                            have hC := Mem.le_trans hC hM
                            refine s_nextA hC ?_
                            refine anyT_done ?_
                            exact ⟨rfl, hS.weak ⟨od rfl, od rfl, trivial⟩⟩
                          exact allR_nil
                        exact allR_nil
                      exact allR_nil
                    exact allR_nil
                  refine allR_cons rfl ?_ ?_
                  · skip
                    refine s_callT en23 (f23_ok e_20) hT hS ⟨od rfl, trivial⟩ rfl fun a w hS hM => ?_
                    have hC := Mem.le_trans hC hM
                    refine s_nextA hC ?_
                    refine anyT_of [13] (by kernel_rfl) ?_
                    refine allR_cons rfl ?_ ?_
                    · skip
                      refine s_c hS (sg (sp_cat (od rfl) (ods) e_18)) rfl fun a w hS hM => ?_
                      have hC := Mem.le_trans hC hM
                      refine s_nextA hC ?_
                      refine anyT_of [17] (by kernel_rfl) ?_
                      refine allR_cons rfl ?_ ?_
                      · skip
                        refine s_c hS (sg (sp_cat (od rfl) (od rfl) e_22)) rfl fun a w hS hM => ?_
                        have hC := Mem.le_trans hC hM
                        refine s_nextA hC ?_
                        refine anyT_of [18] (by kernel_rfl) ?_
                        refine allR_cons rfl ?_ ?_
                        · skip
                          refine s_c hS (sg (sp_assign (od rfl))) rfl fun a w hS hM => ?_
                          have hC := Mem.le_trans hC hM
                          refine s_nextA hC ?_
                          refine anyT_of [19] (by kernel_rfl) ?_
                          refine allR_cons rfl ?_ ?_
                          · skip
                            refine s_c hS (sg (sp_assign (odi))) rfl fun a w hS hM => ?_
                            have hC := Mem.le_trans hC hM
                            refine s_nextA hC ?_
                            refine anyT_done ?_
                            exact ⟨rfl, hS.weak ⟨od rfl, od rfl, trivial⟩⟩
                          exact allR_nil
                        exact allR_nil
                      exact allR_nil
                    exact allR_nil
                  exact allR_nil
                refine allR_cons rfl ?_ ?_
                · skip
                  refine s_callT en23 (f23_ok e_20) hT hS ⟨od rfl, trivial⟩ rfl fun a w hS hM => ?_
                  have hC := Mem.le_trans hC hM
                  refine s_nextA hC ?_
                  refine anyT_of [12] (by kernel_rfl) ?_
                  refine allR_cons rfl ?_ ?_
                  · skip
                    refine s_c hS (sg (sp_cat (od rfl) (od rfl) e_16)) rfl fun a w hS hM => ?_
                    have hC := Mem.le_trans hC hM
                    refine s_nextA hC ?_
                    refine anyT_of [13] (by kernel_rfl) ?_
                    refine allR_cons rfl ?_ ?_
                    · skip
                      refine s_c hS (sg (sp_cat (od rfl) (ods) e_18)) rfl fun a w hS hM => ?_
                      have hC := Mem.le_trans hC hM
                      refine s_nextA hC ?_
                      refine anyT_of [17] (by kernel_rfl) ?_
                      refine allR_cons rfl ?_ ?_
                      · skip
                        refine s_c hS (sg (sp_cat (od rfl) (od rfl) e_22)) rfl fun a w hS hM => ?_
                        have hC := Mem.le_trans hC hM
                        refine s_nextA hC ?_
                        refine anyT_of [18] (by kernel_rfl) ?_
                        refine allR_cons rfl ?_ ?_
                        · skip
                          refine s_c hS (sg (sp_assign (od rfl))) rfl fun a w hS hM => ?_
                          have hC := Mem.le_trans hC hM
                          refine s_nextA hC ?_
                          refine anyT_of [19] (by kernel_rfl) ?_
                          refine allR_cons rfl ?_ ?_
                          · skip
                            refine s_c hS (sg (sp_assign (odi))) rfl fun a w hS hM => ?_
                            have hC := Mem.le_trans hC hM
                            refine s_nextA hC ?_
                            refine anyT_done ?_
                            exact ⟨rfl, hS.weak ⟨od rfl, od rfl, trivial⟩⟩
                          exact allR_nil
                        exact allR_nil
                      exact allR_nil
                    exact allR_nil
                  exact allR_nil
                exact allR_nil
              exact allR_nil
            refine allR_cons rfl ?_ ?_
            · skip
              refine s_callT en23 (f23_ok e_14) hT hS ⟨od rfl, trivial⟩ rfl fun a w hS hM => ?_
              have hC := Mem.le_trans hC hM
              refine s_nextA hC ?_
              refine anyT_of [8, 16] (by kernel_rfl) ?_
              refine allR_cons rfl ?_ ?_
              · skip
                refine s_c hS (sg (sp_cat (od rfl) (ods) e_12)) rfl fun a w hS hM => ?_
                have hC := Mem.le_trans hC hM
                refine s_nextA hC ?_
                refine anyT_of [12, 16] (by kernel_rfl) ?_
                refine allR_cons rfl ?_ ?_
                · skip
                  refine s_c hS (sg (sp_cat (od rfl) (od rfl) e_16)) rfl fun a w hS hM => ?_
                  have hC := Mem.le_trans hC hM
                  refine s_nextA hC ?_
                  refine anyT_of [13, 16] (by kernel_rfl) ?_
                  refine allR_cons rfl ?_ ?_
                  · skip
                    refine s_c hS (sg (sp_cat (od rfl) (ods) e_18)) rfl fun a w hS hM => ?_
                    have hC := Mem.le_trans hC hM
                    refine s_nextA hC ?_
                    refine anyT_of [16] (by kernel_rfl) ?_
                    refine allR_cons rfl ?_ ?_
                    · skip
                      refine s_callT en23 (f23_ok e_20) hT hS ⟨od rfl, trivial⟩ rfl fun a w hS hM => ?_
                      have hC := Mem.le_trans hC hM
                      refine s_nextA hC ?_
                      refine anyT_of [17] (by kernel_rfl) ?_
                      refine allR_cons rfl ?_ ?_
                      · skip
                        refine s_c hS (sg (sp_cat (od rfl) (od rfl) e_22)) rfl fun a w hS hM => ?_
                        have hC := Mem.le_trans hC hM
                        refine s_nextA hC ?_
                        refine anyT_of [18] (by kernel_rfl) ?_
                        refine allR_cons rfl ?_ ?_
                        · skip
                          refine s_c hS (sg (sp_assign (od rfl))) rfl fun a w hS hM => ?_
                          have hC := Mem.le_trans hC hM
                          refine s_nextA hC ?_
                          refine anyT_of [19] (by kernel_rfl) ?_
                          refine allR_cons rfl ?_ ?_
                          · skip
                            refine s_c hS (sg (sp_assign (odi))) rfl fun a w hS hM => ?_
                            have hC := Mem.le_trans hC hM
                            refine s_nextA hC ?_
                            refine anyT_done ?_
                            exact ⟨rfl, hS.weak ⟨od rfl, od rfl, trivial⟩⟩
                          exact allR_nil
                        exact allR_nil
                      exact allR_nil
                    exact allR_nil
                  refine allR_cons rfl ?_ ?_
                  · skip
                    refine s_callT en23 (f23_ok e_20) hT hS ⟨od rfl, trivial⟩ rfl fun a w hS hM => ?_
                    have hC := Mem.le_trans hC hM
                    refine s_nextA hC ?_
                    refine anyT_of [13] (by kernel_rfl) ?_
                    refine allR_cons rfl ?_ ?_
                    · skip
                      refine s_c hS (sg (sp_cat (od rfl) (ods) e_18)) rfl fun a w hS hM => ?_
                      have hC := Mem.le_trans hC hM
                      refine s_nextA hC ?_
                      refine anyT_of [17] (by kernel_rfl) ?_
                      refine allR_cons rfl ?_ ?_
                      · skip
                        refine s_c hS (sg (sp_cat (od rfl) (od rfl) e_22)) rfl fun a w hS hM => ?_
                        have hC := Mem.le_trans hC hM
                        refine s_nextA hC ?_
                        refine anyT_of [18] (by kernel_rfl) ?_
                        refine allR_cons rfl ?_ ?_
                        · skip
                          refine s_c hS (sg (sp_assign (od rfl))) rfl fun a w hS hM => ?_
                          have hC := Mem.le_trans hC hM
                          refine s_nextA hC ?_
                          refine anyT_of [19] (by kernel_rfl) ?_
                          refine allR_cons rfl ?_ ?_
                          · skip
                            refine s_c hS (sg (sp_assign (odi))) rfl fun a w hS hM => ?_
                            have hC := Mem.le_trans hC hM
                            refine s_nextA hC ?_
                            refine anyT_done ?_
                            exact ⟨rfl, hS.weak ⟨od rfl, od rfl, trivial⟩⟩
                          exact allR_nil
                        exact allR_nil
                      exact allR_nil
                    exact allR_nil
                  exact allR_nil
                refine allR_cons rfl ?_ ?_
                · skip
                  refine s_callT en23 (f23_ok e_20) hT hS ⟨od rfl, trivial⟩ rfl fun a w hS hM => ?_
                  have hC := Mem.le_trans hC hM
                  refine s_nextA hC ?_
                  refine anyT_of [12] (by kernel_rfl) ?_
                  refine allR_cons rfl ?_ ?_
                  · skip
                    refine s_c hS (sg (sp_cat (od rfl) (od rfl) e_16)) rfl fun a w hS hM => ?_
                    have hC := Mem.le_trans hC hM
                    refine s_nextA hC ?_
                    refine anyT_of [13] (by kernel_rfl) ?_
                    refine allR_cons rfl ?_ ?_
                    · skip
                      refine s_c hS (sg (sp_cat (od rfl) (ods) e_18)) rfl fun a w hS hM => ?_
                      have hC := Mem.le_trans hC hM
                      refine s_nextA hC ?_
                      refine anyT_of [17] (by kernel_rfl) ?_
                      refine allR_cons rfl ?_ ?_
                      · skip
                        refine s_c hS (sg (sp_cat (od rfl) (od rfl) e_22)) rfl fun a w hS hM => ?_
                        have hC := Mem.le_trans hC hM
                        refine s_nextA hC ?_
                        refine anyT_of [18] (by kernel_rfl) ?_
                        refine allR_cons rfl ?_ ?_
                        · skip
                          refine s_c hS (sg (sp_assign (od rfl))) rfl fun a w hS hM => ?_
                          have hC := Mem.le_trans hC hM
                          refine s_nextA hC ?_
                          refine anyT_of [19] (by kernel_rfl) ?_
                          refine allR_cons rfl ?_ ?_
                          · skip
                            refine s_c hS (sg (sp_assign (odi))) rfl fun a w hS hM => ?_
                            have hC := Mem.le_trans hC hM
                            refine s_nextA hC ?_
                            refine anyT_done ?_
                            exact ⟨rfl, hS.weak ⟨od rfl, od rfl, trivial⟩⟩
                          exact allR_nil
                        exact allR_nil
                      exact allR_nil
                    exact allR_nil
                  exact allR_nil
                exact allR_nil
              refine allR_cons rfl ?_ ?_
              · skip
                refine s_callT en23 (f23_ok e_20) hT hS ⟨od rfl, trivial⟩ rfl fun a w hS hM => ?_
                have hC := Mem.le_trans hC hM
                refine s_nextA hC ?_
                refine anyT_of [8] (by kernel_rfl) ?_
                refine allR_cons rfl ?_ ?_
                · skip
                  refine s_c hS (sg (sp_cat (od rfl) (ods) e_12)) rfl fun a w hS hM => ?_
                  have hC := Mem.le_trans hC hM
                  refine s_nextA hC ?_
                  refine anyT_of [12] (by kernel_rfl) ?_
                  refine allR_cons rfl ?_ ?_
                  · skip
                    refine s_c hS (sg (sp_cat (od rfl) (od rfl) e_16)) rfl fun a w hS hM => ?_
                    have hC := Mem.le_trans hC hM
                    refine s_nextA hC ?_
                    refine anyT_of [13] (by kernel_rfl) ?_
                    refine allR_cons rfl ?_ ?_
                    · skip
                      refine s_c hS (sg (sp_cat (od rfl) (ods) e_18)) rfl fun a w hS hM => ?_
                      have hC := Mem.le_trans hC hM
                      refine s_nextA hC ?_
                      refine anyT_of [17] (by kernel_rfl) ?_
                      refine allR_cons rfl ?_ ?_
                      · skip
                        refine s_c hS (sg (sp_cat (od rfl) (od rfl) e_22)) rfl fun a w hS hM => ?_
                        have hC := Mem.le_trans hC hM
                        refine s_nextA hC ?_
                        refine anyT_of [18] (by kernel_rfl) ?_
                        refine allR_cons rfl ?_ ?_
                        · skip
                          refine s_c hS (sg (sp_assign (od rfl))) rfl fun a w hS hM => ?_
                          have hC := Mem.le_trans hC hM
                          refine s_nextA hC ?_
                          refine anyT_of [19] (by kernel_rfl) ?_
                          refine allR_cons rfl ?_ ?_
                          · skip
                            refine s_c hS (sg (sp_assign (odi))) rfl fun a w hS hM => ?_
                            have hC := Mem.le_trans hC hM
                            refine s_nextA hC ?_
                            refine anyT_done ?_
                            exact ⟨rfl, hS.weak ⟨od rfl, od rfl, trivial⟩⟩
                          exact allR_nil
                        exact allR_nil
                      exact allR_nil
                    exact allR_nil
                  exact allR_nil
                exact allR_nil
              exact allR_nil
            exact allR_nil
          refine allR_cons rfl ?_ ?_
          · skip
            refine s_callT en23 (f23_ok e_14) hT hS ⟨od rfl, trivial⟩ rfl fun a w hS hM => ?_
            have hC := Mem.le_trans hC hM
            refine s_nextA hC ?_
            refine anyT_of [7, 16] (by kernel_rfl) ?_
            refine allR_cons rfl ?_ ?_
            · skip
              refine s_c hS (sg (sp_cat (od rfl) (od rfl) e_10)) rfl fun a w hS hM => ?_
              have hC := Mem.le_trans hC hM
              refine s_nextA hC ?_
              refine anyT_of [8, 16] (by kernel_rfl) ?_
              refine allR_cons rfl ?_ ?_
              · skip
                refine s_c hS (sg (sp_cat (od rfl) (ods) e_12)) rfl fun a w hS hM => ?_
                have hC := Mem.le_trans hC hM
                refine s_nextA hC ?_
                refine anyT_of [12, 16] (by kernel_rfl) ?_
                refine allR_cons rfl ?_ ?_
                · skip
                  refine s_c hS (sg (sp_cat (od rfl) (od rfl) e_16)) rfl fun a w hS hM => ?_
                  have hC := Mem.le_trans hC hM
                  refine s_nextA hC ?_
                  refine anyT_of [13, 16] (by kernel_rfl) ?_
                  refine allR_cons rfl ?_ ?_
                  · skip
                    refine s_c hS (sg (sp_cat (od rfl) (ods) e_18)) rfl fun a w hS hM => ?_
                    have hC := Mem.le_trans hC hM
                    refine s_nextA hC ?_
                    refine anyT_of [16] (by kernel_rfl) ?_
                    refine allR_cons rfl ?_ ?_
                    · skip
                      refine s_callT en23 (f23_ok e_20) hT hS ⟨od rfl, trivial⟩ rfl fun a w hS hM => ?_
                      have hC := Mem.le_trans hC hM
                      refine s_nextA hC ?_
                      refine anyT_of [17] (by kernel_rfl) ?_
                      refine allR_cons rfl ?_ ?_
                      · skip
                        refine s_c hS (sg (sp_cat (od rfl) (od rfl) e_22)) rfl fun a w hS hM => ?_
                        have hC := Mem.le_trans hC hM
                        refine s_nextA hC ?_
                        refine anyT_of [18] (by kernel_rfl) ?_
                        refine allR_cons rfl ?_ ?_
                        · skip
                          refine s_c hS (sg (sp_assign (od rfl))) rfl fun a w hS hM => ?_
                          have hC := Mem.le_trans hC hM
                          refine s_nextA hC ?_
                          refine anyT_of [19] (by kernel_rfl) ?_
                          refine allR_cons rfl ?_ ?_
                          · skip
                            refine s_c hS (sg (sp_assign (odi))) rfl fun a w hS hM => ?_
                            have hC := Mem.le_trans hC hM
                            refine s_nextA hC ?_
                            refine anyT_done ?_
                            exact ⟨rfl, hS.weak ⟨od rfl, od rfl, trivial⟩⟩
                          exact allR_nil
                        exact allR_nil
                      exact allR_nil
                    exact allR_nil
                  refine allR_cons rfl ?_ ?_
                  · skip
                    refine s_callT en23 (f23_ok e_20) hT hS ⟨od rfl, trivial⟩ rfl fun a w hS hM => ?_
                    have hC := Mem.le_trans hC hM
                    refine s_nextA hC ?_
                    refine anyT_of [13] (by kernel_rfl) ?_
                    refine allR_cons rfl ?_ ?_
                    · skip
                      refine s_c hS (sg (sp_cat (od rfl) (ods) e_18)) rfl fun a w hS hM => ?_
                      have hC := Mem.le_trans hC hM
                      refine s_nextA hC ?_
                      refine anyT_of [17] (by kernel_rfl) ?_
                      refine allR_cons rfl ?_ ?_
                      · skip
                        refine s_c hS (sg (sp_cat (od rfl) (od rfl) e_22)) rfl fun a w hS hM => ?_
                        have hC := Mem.le_trans hC hM
                        refine s_nextA hC ?_
                        refine anyT_of [18] (by kernel_rfl) ?_
                        refine allR_cons rfl ?_ ?_
                        · skip
                          refine s_c hS (sg (sp_assign (od rfl))) rfl fun a w hS hM => ?_
                          have hC := Mem.le_trans hC hM
                          refine s_nextA hC ?_
                          refine anyT_of [19] (by kernel_rfl) ?_
                          refine allR_cons rfl ?_ ?_
                          · skip
                            refine s_c hS (sg (sp_assign (odi))) rfl fun a w hS hM => ?_
                            have hC := Mem.le_trans hC hM
                            refine s_nextA hC ?_
                            refine anyT_done ?_
                            exact ⟨rfl, hS.weak ⟨od rfl, od rfl, trivial⟩⟩
                          exact allR_nil
                        exact allR_nil
                      exact allR_nil
                    exact allR_nil
                  exact allR_nil
                refine allR_cons rfl ?_ ?_
                · skip
                  refine s_callT en23 (f23_ok e_20) hT hS ⟨od rfl, trivial⟩ rfl fun a w hS hM => ?_
                  have hC := Mem.le_trans hC hM
                  refine s_nextA hC ?_
                  refine anyT_of [12] (by kernel_rfl) ?_
                  refine allR_cons rfl ?_ ?_
                  · skip
                    refine s_c hS (sg (sp_cat (od rfl) (od rfl) e_16)) rfl fun a w hS hM => ?_
                    have hC := Mem.le_trans hC hM
                    refine s_nextA hC ?_
                    refine anyT_of [13] (by kernel_rfl) ?_
                    refine allR_cons rfl ?_ ?_
                    · skip
                      refine s_c hS (sg (sp_cat (od rfl) (ods) e_18)) rfl fun a w hS hM => ?_
                      have hC := Mem.le_trans hC hM
                      refine s_nextA hC ?_
                      refine anyT_of [17] (by kernel_rfl) ?_
                      refine allR_cons rfl ?_ ?_
                      · skip
                        refine s_c hS (sg (sp_cat (od rfl) (od rfl) e_22)) rfl fun a w hS hM => ?_
                        have hC := Mem.le_trans hC hM
                        refine s_nextA hC ?_
                        refine anyT_of [18] (by kernel_rfl) ?_
                        refine allR_cons rfl ?_ ?_
                        · skip
                          refine s_c hS (sg (sp_assign (od rfl))) rfl fun a w hS hM => ?_
                          have hC := Mem.le_trans hC hM
                          refine s_nextA hC ?_
                          refine anyT_of [19] (by kernel_rfl) ?_
                          refine allR_cons rfl ?_ ?_
                          · skip
                            refine s_c hS (sg (sp_assign (odi))) rfl fun a w hS hM => ?_
                            have hC := Mem.le_trans hC hM
                            refine s_nextA hC ?_
                            refine anyT_done ?_
                            exact ⟨rfl, hS.weak ⟨od rfl, od rfl, trivial⟩⟩
                          exact allR_nil
                        exact allR_nil
                      exact allR_nil
                    exact allR_nil
                  exact allR_nil
                exact allR_nil
              refine allR_cons rfl ?_ ?_
              · skip
                refine s_callT en23 (f23_ok e_20) hT hS ⟨od rfl, trivial⟩ rfl fun a w hS hM => ?_
                have hC := Mem.le_trans hC hM
                refine s_nextA hC ?_
                refine anyT_of [8] (by kernel_rfl) ?_
                refine allR_cons rfl ?_ ?_
                · skip
                  refine s_c hS (sg (sp_cat (od rfl) (ods) e_12)) rfl fun a w hS hM => ?_
                  have hC := Mem.le_trans hC hM
                  refine s_nextA hC ?_
                  refine anyT_of [12] (by kernel_rfl) ?_
                  refine allR_cons rfl ?_ ?_
                  · skip
                    refine s_c hS (sg (sp_cat (od rfl) (od rfl) e_16)) rfl fun a w hS hM => ?_
                    have hC := Mem.le_trans hC hM
                    refine s_nextA hC ?_
                    refine anyT_of [13] (by kernel_rfl) ?_
                    refine allR_cons rfl ?_ ?_
                    · skip
                      refine s_c hS (sg (sp_cat (od rfl) (ods) e_18)) rfl fun a w hS hM => ?_
                      have hC := Mem.le_trans hC hM
                      refine s_nextA hC ?_
                      refine anyT_of [17] (by kernel_rfl) ?_
                      refine allR_cons rfl ?_ ?_
                      · skip
                        refine s_c hS (sg (sp_cat (od rfl) (od rfl) e_22)) rfl fun a w hS hM => ?_
                        have hC := Mem.le_trans hC hM
                        refine s_nextA hC ?_
                        refine anyT_of [18] (by kernel_rfl) ?_
                        refine allR_cons rfl ?_ ?_
                        · skip
                          refine s_c hS (sg (sp_assign (od rfl))) rfl fun a w hS hM => ?_
                          have hC := Mem.le_trans hC hM
                          refine s_nextA hC ?_
                          refine anyT_of [19] (by kernel_rfl) ?_
                          refine allR_cons rfl ?_ ?_
                          · skip
                            refine s_c hS (sg (sp_assign (odi))) rfl fun a w hS hM => ?_
                            have hC := Mem.le_trans hC hM
                            refine s_nextA hC ?_
                            refine anyT_done ?_
                            exact ⟨rfl, hS.weak ⟨od rfl, od rfl, trivial⟩⟩
                          exact allR_nil
                        exact allR_nil
                      exact allR_nil
                    exact allR_nil
                  exact allR_nil
                exact allR_nil
              exact allR_nil
            refine allR_cons rfl ?_ ?_
            · skip
              refine s_callT en23 (f23_ok e_20) hT hS ⟨od rfl, trivial⟩ rfl fun a w hS hM => ?_
              have hC := Mem.le_trans hC hM
              refine s_nextA hC ?_
              refine anyT_of [7] (by kernel_rfl) ?_
              refine allR_cons rfl ?_ ?_
              · skip
                refine s_c hS (sg (sp_cat (od rfl) (od rfl) e_10)) rfl fun a w hS hM => ?_
                have hC := Mem.le_trans hC hM
                refine s_nextA hC ?_
                refine anyT_of [8] (by kernel_rfl) ?_
                refine allR_cons rfl ?_ ?_
                · skip
                  refine s_c hS (sg (sp_cat (od rfl) (ods) e_12)) rfl fun a w hS hM => ?_
                  have hC := Mem.le_trans hC hM
                  refine s_nextA hC ?_
                  refine anyT_of [12] (by kernel_rfl) ?_
                  refine allR_cons rfl ?_ ?_
                  · skip
                    refine s_c hS (sg (sp_cat (od rfl) (od rfl) e_16)) rfl fun a w hS hM => ?_
                    have hC := Mem.le_trans hC hM
                    refine s_nextA hC ?_
                    refine anyT_of [13] (by kernel_rfl) ?_
                    refine allR_cons rfl ?_ ?_
                    · skip
                      refine s_c hS (sg (sp_cat (od rfl) (ods) e_18)) rfl fun a w hS hM => ?_
                      have hC := Mem.le_trans hC hM
                      refine s_nextA hC ?_
                      refine anyT_of [17] (by kernel_rfl) ?_
                      refine allR_cons rfl ?_ ?_
                      · skip
                        refine s_c hS (sg (sp_cat (od rfl) (od rfl) e_22)) rfl fun a w hS hM => ?_
                        have hC := Mem.le_trans hC hM
                        refine s_nextA hC ?_
                        refine anyT_of [18] (by kernel_rfl) ?_
                        refine allR_cons rfl ?_ ?_
                        · skip
                          refine s_c hS (sg (sp_assign (od rfl))) rfl fun a w hS hM => ?_
                          have hC := Mem.le_trans hC hM
                          refine s_nextA hC ?_
                          refine anyT_of [19] (by kernel_rfl) ?_
                          refine allR_cons rfl ?_ ?_
                          · skip
                            refine s_c hS (sg (sp_assign (odi))) rfl fun a w hS hM => ?_
                            have hC := Mem.le_trans hC hM
                            refine s_nextA hC ?_
                            refine anyT_done ?_
                            exact ⟨rfl, hS.weak ⟨od rfl, od rfl, trivial⟩⟩
                          exact allR_nil
                        exact allR_nil
                      exact allR_nil
                    exact allR_nil
                  exact allR_nil
                exact allR_nil
              exact allR_nil
            exact allR_nil
          exact allR_nil
        refine allR_cons rfl ?_ ?_
        · skip
          refine s_callT en23 (f23_ok e_14) hT hS ⟨od rfl, trivial⟩ rfl fun a w hS hM => ?_
          have hC := Mem.le_trans hC hM
          refine s_nextA hC ?_
          refine anyT_of [3, 16] (by kernel_rfl) ?_
          refine allR_cons rfl ?_ ?_
          · skip
            refine s_c hS (sg (sp_cat (od rfl) (ods) e_6)) rfl fun a w hS hM => ?_
            have hC := Mem.le_trans hC hM
            refine s_nextA hC ?_
            refine anyT_of [7, 16] (by kernel_rfl) ?_
            refine allR_cons rfl ?_ ?_
            · skip
              refine s_c hS (sg (sp_cat (od rfl) (od rfl) e_10)) rfl fun a w hS hM => ?_
              have hC := Mem.le_trans hC hM
              refine s_nextA hC ?_
              refine anyT_of [8, 16] (by kernel_rfl) ?_
              refine allR_cons rfl ?_ ?_
              · skip
                refine s_c hS (sg (sp_cat (od rfl) (ods) e_12)) rfl fun a w hS hM => ?_
                have hC := Mem.le_trans hC hM
                refine s_nextA hC ?_
                refine anyT_of [12, 16] (by kernel_rfl) ?_
                refine allR_cons rfl ?_ ?_
                · skip
                  refine s_c hS (sg (sp_cat (od rfl) (od rfl) e_16)) rfl fun a w hS hM => ?_
                  have hC := Mem.le_trans hC hM
                  refine s_nextA hC ?_
                  refine anyT_of [13, 16] (by kernel_rfl) ?_
                  refine allR_cons rfl ?_ ?_
                  · skip
                    refine s_c hS (sg (sp_cat (od rfl) (ods) e_18)) rfl fun a w hS hM => ?_
                    have hC := Mem.le_trans hC hM
                    refine s_nextA hC ?_
                    refine anyT_of [16] (by kernel_rfl) ?_
                    refine allR_cons rfl ?_ ?_
                    · skip
                      refine s_callT en23 (f23_ok e_20) hT hS ⟨od rfl, trivial⟩ rfl fun a w hS hM => ?_
                      have hC := Mem.le_trans hC hM
                      refine s_nextA hC ?_
                      refine anyT_of [17] (by kernel_rfl) ?_
                      refine allR_cons rfl ?_ ?_
                      · skip
                        refine s_c hS (sg (sp_cat (od rfl) (od rfl) e_22)) rfl fun a w hS hM => ?_
                        have hC := Mem.le_trans hC hM
                        refine s_nextA hC ?_
                        refine anyT_of [18] (by kernel_rfl) ?_
                        refine allR_cons rfl ?_ ?_
                        · skip
                          refine s_c hS (sg (sp_assign (od rfl))) rfl fun a w hS hM => ?_
                          have hC := Mem.le_trans hC hM
                          refine s_nextA hC ?_
                          refine anyT_of [19] (by kernel_rfl) ?_
                          refine allR_cons rfl ?_ ?_
                          · skip
                            refine s_c hS (sg (sp_assign (odi))) rfl fun a w hS hM => ?_
                            have hC := Mem.le_trans hC hM
                            refine s_nextA hC ?_
                            refine anyT_done ?_
                            exact ⟨rfl, hS.weak ⟨od rfl, od rfl, trivial⟩⟩
                          exact allR_nil
                        exact allR_nil
                      exact allR_nil
                    exact allR_nil
                  refine allR_cons rfl ?_ ?_
                  · skip
                    refine s_callT en23 (f23_ok e_20) hT hS ⟨od rfl, trivial⟩ rfl fun a w hS hM => ?_
                    have hC := Mem.le_trans hC hM
                    refine s_nextA hC ?_
                    refine anyT_of [13] (by kernel_rfl) ?_
                    refine allR_cons rfl ?_ ?_
                    · skip
                      refine s_c hS (sg (sp_cat (od rfl) (ods) e_18)) rfl fun a w hS hM => ?_
                      have hC := Mem.le_trans hC hM
                      refine s_nextA hC ?_
                      refine anyT_of [17] (by kernel_rfl) ?_
                      refine allR_cons rfl ?_ ?_
                      · skip
                        refine s_c hS (sg (sp_cat (od rfl) (od rfl) e_22)) rfl fun a w hS hM => ?_
                        have hC := Mem.le_trans hC hM
                        refine s_nextA hC ?_
                        refine anyT_of [18] (by kernel_rfl) ?_
                        refine allR_cons rfl ?_ ?_
                        · skip
                          refine s_c hS (sg (sp_assign (od rfl))) rfl fun a w hS hM => ?_
                          have hC := Mem.le_trans hC hM
                          refine s_nextA hC ?_
                          refine anyT_of [19] (by kernel_rfl) ?_
                          refine allR_cons rfl ?_ ?_
                          · skip
                            refine s_c hS (sg (sp_assign (odi))) rfl fun a w hS hM => ?_
                            have hC := Mem.le_trans hC hM
                            refine s_nextA hC ?_
                            refine anyT_done ?_
                            exact ⟨rfl, hS.weak ⟨od rfl, od rfl, trivial⟩⟩
                          exact allR_nil
                        exact allR_nil
                      exact allR_nil
                    exact allR_nil
                  exact allR_nil
                refine allR_cons rfl ?_ ?_
                · skip
                  refine s_callT en23 (f23_ok e_20) hT hS ⟨od rfl, trivial⟩ rfl fun a w hS hM => ?_
                  have hC := Mem.le_trans hC hM
                  refine s_nextA hC ?_
                  refine anyT_of [12] (by kernel_rfl) ?_
                  refine allR_cons rfl ?_ ?_
                  · skip
                    refine s_c hS (sg (sp_cat (od rfl) (od rfl) e_16)) rfl fun a w hS hM => ?_
                    have hC := Mem.le_trans hC hM
                    refine s_nextA hC ?_
                    refine anyT_of [13] (by kernel_rfl) ?_
                    refine allR_cons rfl ?_ ?_
                    · skip
                      refine s_c hS (sg (sp_cat (od rfl) (ods) e_18)) rfl fun a w hS hM => ?_
                      have hC := Mem.le_trans hC hM
                      refine s_nextA hC ?_
                      refine anyT_of [17] (by kernel_rfl) ?_
                      refine allR_cons rfl ?_ ?_
                      · skip
                        refine s_c hS (sg (sp_cat (od rfl) (od rfl) e_22)) rfl fun a w hS hM => ?_
                        have hC := Mem.le_trans hC hM
                        refine s_nextA hC ?_
                        refine anyT_of [18] (by kernel_rfl) ?_
                        refine allR_cons rfl ?_ ?_
                        · skip
                          refine s_c hS (sg (sp_assign (od rfl))) rfl fun a w hS hM => ?_
                          have hC := Mem.le_trans hC hM
                          refine s_nextA hC ?_
                          refine anyT_of [19] (by kernel_rfl) ?_
                          refine allR_cons rfl ?_ ?_
                          · skip
                            refine s_c hS (sg (sp_assign (odi))) rfl fun a w hS hM => ?_
                            have hC := Mem.le_trans hC hM
                            refine s_nextA hC ?_
                            refine anyT_done ?_
                            exact ⟨rfl, hS.weak ⟨od rfl, od rfl, trivial⟩⟩
                          exact allR_nil
                        exact allR_nil
                      exact allR_nil
                    exact allR_nil
                  exact allR_nil
                exact allR_nil
              refine allR_cons rfl ?_ ?_
              · skip
                refine s_callT en23 (f23_ok e_20) hT hS ⟨od rfl, trivial⟩ rfl fun a w hS hM => ?_
                have hC := Mem.le_trans hC hM
                refine s_nextA hC ?_
                refine anyT_of [8] (by kernel_rfl) ?_
                refine allR_cons rfl ?_ ?_
                · skip
                  refine s_c hS (sg (sp_cat (od rfl) (ods) e_12)) rfl fun a w hS hM => ?_
                  have hC := Mem.le_trans hC hM
                  refine s_nextA hC ?_
                  refine anyT_of [12] (by kernel_rfl) ?_
                  refine allR_cons rfl ?_ ?_
                  · skip
                    refine s_c hS (sg (sp_cat (od rfl) (od rfl) e_16)) rfl fun a w hS hM => ?_
                    have hC := Mem.le_trans hC hM
                    refine s_nextA hC ?_
                    refine anyT_of [13] (by kernel_rfl) ?_
                    refine allR_cons rfl ?_ ?_
                    · skip
                      refine s_c hS (sg (sp_cat (od rfl) (ods) e_18)) rfl fun a w hS hM => ?_
                      have hC := Mem.le_trans hC hM
                      refine s_nextA hC ?_
                      refine anyT_of [17] (by kernel_rfl) ?_
                      refine allR_cons rfl ?_ ?_
                      · skip
                        refine s_c hS (sg (sp_cat (od rfl) (od rfl) e_22)) rfl fun a w hS hM => ?_
                        have hC := Mem.le_trans hC hM
                        refine s_nextA hC ?_
                        refine anyT_of [18] (by kernel_rfl) ?_
                        refine allR_cons rfl ?_ ?_
                        · skip
                          refine s_c hS (sg (sp_assign (od rfl))) rfl fun a w hS hM => ?_
                          have hC := Mem.le_trans hC hM
                          refine s_nextA hC ?_
                          refine anyT_of [19] (by kernel_rfl) ?_
                          refine allR_cons rfl ?_ ?_
                          · skip
                            refine s_c hS (sg (sp_assign (odi))) rfl fun a w hS hM => ?_
                            have hC := Mem.le_trans hC hM
                            refine s_nextA hC ?_
                            refine anyT_done ?_
                            exact ⟨rfl, hS.weak ⟨od rfl, od rfl, trivial⟩⟩
                          exact allR_nil
                        exact allR_nil
                      exact allR_nil
                    exact allR_nil
                  exact allR_nil
                exact allR_nil
              exact allR_nil
            refine allR_cons rfl ?_ ?_
            · skip
              refine s_callT en23 (f23_ok e_20) hT hS ⟨od rfl, trivial⟩ rfl fun a w hS hM => ?_
              have hC := Mem.le_trans hC hM
              refine s_nextA hC ?_
              refine anyT_of [7] (by kernel_rfl) ?_
              refine allR_cons rfl ?_ ?_
              · skip
                refine s_c hS (sg (sp_cat (od rfl) (od rfl) e_10)) rfl fun a w hS hM => ?_
                have hC := Mem.le_trans hC hM
                refine s_nextA hC ?_
                refine anyT_of [8] (by kernel_rfl) ?_
                refine allR_cons rfl ?_ ?_
                · skip
                  refine s_c hS (sg (sp_cat (od rfl) (ods) e_12)) rfl fun a w hS hM => ?_
                  have hC := Mem.le_trans hC hM
                  refine s_nextA hC ?_
                  refine anyT_of [12] (by kernel_rfl) ?_
                  refine allR_cons rfl ?_ ?_
                  · skip
                    refine s_c hS (sg (sp_cat (od rfl) (od rfl) e_16)) rfl fun a w hS hM => ?_
                    have hC := Mem.le_trans hC hM
                    refine s_nextA hC ?_
                    refine anyT_of [13] (by kernel_rfl) ?_
                    refine allR_cons rfl ?_ ?_
                    · skip
                      refine s_c hS (sg (sp_cat (od rfl) (ods) e_18)) rfl fun a w hS hM => ?_
                      have hC := Mem.le_trans hC hM
                      refine s_nextA hC ?_
                      refine anyT_of [17] (by kernel_rfl) ?_
                      refine allR_cons rfl ?_ ?_
                      · skip
                        refine s_c hS (sg (sp_cat (od rfl) (od rfl) e_22)) rfl fun a w hS hM => ?_
                        have hC := Mem.le_trans hC hM
                        refine s_nextA hC ?_
                        refine anyT_of [18] (by kernel_rfl) ?_
                        refine allR_cons rfl ?_ ?_
                        · skip
                          refine s_c hS (sg (sp_assign (od rfl))) rfl fun a w hS hM => ?_
                          have hC := Mem.le_trans hC hM
                          refine s_nextA hC ?_
                          refine anyT_of [19] (by kernel_rfl) ?_
                          refine allR_cons rfl ?_ ?_
                          · skip
                            refine s_c hS (sg (sp_assign (odi))) rfl fun a w hS hM => ?_
                            have hC := Mem.le_trans hC hM
                            refine s_nextA hC ?_
                            refine anyT_done ?_
                            exact ⟨rfl, hS.weak ⟨od rfl, od rfl, trivial⟩⟩
                          exact allR_nil
                        exact allR_nil
                      exact allR_nil
                    exact allR_nil
                  exact allR_nil
                exact allR_nil
              exact allR_nil
            exact allR_nil
          refine allR_cons rfl ?_ ?_
          · skip
            refine s_callT en23 (f23_ok e_20) hT hS ⟨od rfl, trivial⟩ rfl fun a w hS hM => ?_
            have hC := Mem.le_trans hC hM
            refine s_nextA hC ?_
            refine anyT_of [3] (by kernel_rfl) ?_
            refine allR_cons rfl ?_ ?_
            · skip
              refine s_c hS (sg (sp_cat (od rfl) (ods) e_6)) rfl fun a w hS hM => ?_
              have hC := Mem.le_trans hC hM
              refine s_nextA hC ?_
              refine anyT_of [7] (by kernel_rfl) ?_
              refine allR_cons rfl ?_ ?_
              · skip
                refine s_c hS (sg (sp_cat (od rfl) (od rfl) e_10)) rfl fun a w hS hM => ?_
                have hC := Mem.le_trans hC hM
                refine s_nextA hC ?_
                refine anyT_of [8] (by kernel_rfl) ?_
                refine allR_cons rfl ?_ ?_
                · skip
                  refine s_c hS (sg (sp_cat (od rfl) (ods) e_12)) rfl fun a w hS hM => ?_
                  have hC := Mem.le_trans hC hM
                  refine s_nextA hC ?_
                  refine anyT_of [12] (by kernel_rfl) ?_
                  refine allR_cons rfl ?_ ?_
                  · skip
                    refine s_c hS (sg (sp_cat (od rfl) (od rfl) e_16)) rfl fun a w hS hM => ?_
                    have hC := Mem.le_trans hC hM
                    refine s_nextA hC ?_
                    refine anyT_of [13] (by kernel_rfl) ?_
                    refine allR_cons rfl ?_ ?_
                    · skip
                      refine s_c hS (sg (sp_cat (od rfl) (ods) e_18)) rfl fun a w hS hM => ?_
                      have hC := Mem.le_trans hC hM
                      refine s_nextA hC ?_
                      refine anyT_of [17] (by kernel_rfl) ?_
                      refine allR_cons rfl ?_ ?_
                      · skip
                        refine s_c hS (sg (sp_cat (od rfl) (od rfl) e_22)) rfl fun a w hS hM => ?_
                        have hC := Mem.le_trans hC hM
                        refine s_nextA hC ?_
                        refine anyT_of [18] (by kernel_rfl) ?_
                        refine allR_cons rfl ?_ ?_
                        · skip
                          refine s_c hS (sg (sp_assign (od rfl))) rfl fun a w hS hM => ?_
                          have hC := Mem.le_trans hC hM
                          refine s_nextA hC ?_
                          refine anyT_of [19] (by kernel_rfl) ?_
                          refine allR_cons rfl ?_ ?_
                          · skip
                            refine s_c hS (sg (sp_assign (odi))) rfl fun a w hS hM => ?_
                            have hC := Mem.le_trans hC hM
                            refine s_nextA hC ?_
                            refine anyT_done ?_
                            exact ⟨rfl, hS.weak ⟨od rfl, od rfl, trivial⟩⟩
                          exact allR_nil
                        exact allR_nil
                      exact allR_nil
                    exact allR_nil
                  exact allR_nil
                exact allR_nil
              exact allR_nil
            exact allR_nil
          exact allR_nil
        exact allR_nil
      exact allR_nil
    exact allR_nil
  rintro e a w ⟨rfl, hS⟩
  refine et ?_
  refine wp_ret ?_
  cases h
  exact st_ret hS (run_results2 Tryz.results6 a w) (⟨_, rfl, hS.get rfl, hS.get rfl, trivial⟩)

theorem f7_ok {p0 : ByteArray} {r : S_api_Offer × Int} (h : M.f7 p0 = some r) : CallT Tryz.prog 7 [isV p0] (isTup [isV r.1, isV r.2]) := by
  unfold M.f7 at h
  refine callT_of Tryz.func7 rfl Tryz.ntmps7 rfl fun F0 w0 a hT hS => ?_
  refine ws ?_
  refine l_start ?_
  refine s_alloc zi23 hS rfl fun a w b_1 hS hM => ?_
  have hS : St _ F0 [Item.box (α := S_api_Offer) 23 b_1 ((0, 0, 0, 0) : S_api_Offer)] _ w0 _ _ := hS
  refine s_c hS (sg (sp_assign (odi))) rfl fun a w hS hM => ?_
  refine l_end ?_
  refine et ?_
  refine ws ?_
  obtain ⟨v_2, e_3, h⟩ := bind_some h
  refine st_reg mixed (by kernel_rfl) hS ?_
  refine mv rfl ?_
  refine cg (sp_call en26 (f26_ok e_3) ⟨od rfl, ods, trivial⟩) ?_
  refine cg (sp_assign (od rfl)) ?_
  refine sn fun a w hS => ?_
  refine et ?_
  refine ws ?_
  refine ws ?_
  refine st_reg mixed (by kernel_rfl) hS ?_
  refine mv rfl ?_
  refine cg (sp_len Tryz.underlying60 (od rfl)) ?_
  refine cg (sp_neq (od rfl) (odi)) ?_
  refine sn fun a w hS => ?_
  refine et ?_
  refine st_cond hS rfl (fun hb => ?_) (fun hb => ?_)
  · have h := ite_t hb h
    refine ws ?_
    refine l_start ?_
    refine s_c hS (sg (bd23_ )) rfl fun a w hS hM => ?_
    refine s_storeB (k := 0) (Δ := [(2, Pr.ptr b_1), (18, isV (α := S_api_Offer) ((0, 0, 0, 0) : S_api_Offer))]) ty23 hS rfl ⟨od rfl, od rfl, trivial⟩ ⟨fun _ _ _ _ h => h, fun _ _ _ _ h => h, trivial⟩ rfl (od rfl) fun w hS hM => ?_
    have hS : St _ F0 [Item.box (α := S_api_Offer) 23 b_1 ((0, 0, 0, 0) : S_api_Offer)] _ w0 _ _ := hS
    refine s_c hS (sg (sp_assign (odi))) rfl fun a w hS hM => ?_
    refine l_end ?_
    refine et ?_
    refine wp_ret ?_
    refine exit_thenR ?_
    have hS := st_freezeB 0 2 hS rfl rfl
    cases h
    obtain ⟨v, hr, hv⟩ := run_resC2 Tryz.results7 ty23 (hS.get rfl)
    exact st_ret hS hr ⟨_, rfl, hv, hS.get rfl, trivial⟩
  have h := ite_f hb h
  refine wp_skip ?_
  refine et ?_
  refine ws ?_
  refine l_start ?_
  refine s_alloc zi61 hS rfl fun a w b_4 hS hM => ?_
  have hS : St _ F0 [Item.box (α := S_api_Offer) 23 b_1 ((0, 0, 0, 0) : S_api_Offer), Item.box (α := Vector Int 4) 61 b_4 (#v[0, 0, 0, 0] : Vector Int 4)] _ w0 _ _ := hS
  refine l_end ?_
  refine et ?_
  refine ws ?_
  refine ws ?_
  refine st_reg mixed (by kernel_rfl) hS ?_
  refine mv rfl ?_
  refine cg (sp_len Tryz.underlying60 (od rfl)) ?_
  refine cg (sp_move (odi)) ?_
  refine sn fun a w hS => ?_
  refine et ?_
  refine wp_block ?_
  obtain ⟨o_8, e_9, hr_10⟩ := bind_some h
  refine c_loop (fun K a w => ∃ k i_5 s_7, K = k + 1 ∧ ForI _ _ _ o_8 k i_5 s_7 ∧ St 61 F0 [Item.box (α := S_api_Offer) 23 b_1 ((0, 0, 0, 0) : S_api_Offer), Item.box (α := Vector Int 4) 61 b_4 s_7] [(0, isV (α := ByteArray) p0), (2, Pr.ptr b_1), (5, Pr.ptr b_4), (19, isV (α := List ByteArray) v_2), (20, isV (α := Int) (v_2.length : Int)), (21, isV (α := Int) i_5)] w0 a w) ?_ ?_ ⟨_, _, _, rfl, for_init e_9, hS.weak ⟨od rfl, od rfl, od rfl, od rfl, od rfl, od rfl, trivial⟩⟩
  · rintro a w ⟨_, _, _, hk, _⟩; cases hk
  rintro K a w ⟨k_8, i_5, s_7, hk, hF_8, hS⟩
  obtain rfl := Nat.succ.inj hk
  refine ws ?_
  refine st_reg mixed (by kernel_rfl) hS ?_
  refine cg (sp_lss (od rfl) (od rfl)) ?_
  refine sn fun a w hS => ?_
  refine et ?_
  refine ws ?_
  refine st_cond hS rfl (fun hb => ?_) (fun hb => ?_)
  · refine wp_skip ?_
    refine et ?_
    obtain ⟨k_8, o, rfl, h, hN_8, hL_8, hw_8⟩ := for_more hF_8 hb
    refine ws ?_
    refine wp_block ?_
    refine ws ?_
    obtain ⟨v_11, e_12, h⟩ := bind_some h
    refine st_reg mixed (by kernel_rfl) hS ?_
    refine mv rfl ?_
    refine cg (sp_indexAddr sl60 (od rfl) (od rfl) e_12) ?_
    refine cg (sp_load ty9 (od rfl)) ?_
    refine cg (sp_assign (od rfl)) ?_
    refine cg (sp_assign (od rfl)) ?_
    refine sn fun a w hS => ?_
    refine et ?_
    refine ws ?_
    obtain ⟨v_13, e_14, h⟩ := bind_some h
    refine l_start ?_
    refine s_c hS (sg (sp_move (od rfl))) rfl fun a w hS hM => ?_
    refine s_callT en27 (f27_ok e_14) hT hS ⟨od rfl, trivial⟩ rfl fun a w hS hM => ?_
    refine s_c hS (sg (sp_move (od rfl))) rfl fun a w hS hM => ?_
    refine s_c hS (sg (sp_extract (od rfl) rfl)) rfl fun a w hS hM => ?_
    refine s_c hS (sg (sp_extract (od rfl) rfl)) rfl fun a w hS hM => ?_
    refine s_c hS (sg (sp_assign (od rfl))) rfl fun a w hS hM => ?_
    refine s_c hS (sg (sp_assign (od rfl))) rfl fun a w hS hM => ?_
    refine l_end ?_
    refine et ?_
    refine ws ?_
    refine ws ?_
    refine st_reg mixed (by kernel_rfl) hS ?_
    refine mv rfl ?_
    refine cg (sp_neqErr Tryz.underlying66 (od rfl)) ?_
    refine sn fun a w hS => ?_
    refine et ?_
    refine st_cond hS rfl (fun hb => ?_) (fun hb => ?_)
    · have h := ite_t hb h
      refine ws ?_
      have hS := st_drop 1 hS
      refine l_start ?_
      refine s_c hS (sg (bd23_ )) rfl fun a w hS hM => ?_
      refine s_storeB (k := 0) (Δ := [(2, Pr.ptr b_1), (33, isV (α := S_api_Offer) ((0, 0, 0, 0) : S_api_Offer))]) ty23 hS rfl ⟨od rfl, od rfl, trivial⟩ ⟨fun _ _ _ _ h => h, fun _ _ _ _ h => h, trivial⟩ rfl (od rfl) fun w hS hM => ?_
      have hS : St _ F0 [Item.box (α := S_api_Offer) 23 b_1 ((0, 0, 0, 0) : S_api_Offer)] _ w0 _ _ := hS
      refine s_c hS (sg (sp_assign (odi))) rfl fun a w hS hM => ?_
      refine l_end ?_
      refine et ?_
      refine wp_ret ?_
      refine exit_thenR ?_
      refine exit_blockR ?_
      refine exit_thenR ?_
      have hS := st_freezeB 0 2 hS rfl rfl
      cases h
      obtain rfl := hL_8 _ rfl
      have h := (elim_leave hr_10)
      refine exit_thenR ?_
      refine exit_blockR ?_
      refine exit_thenR ?_
      cases h
      obtain ⟨v, hr, hv⟩ := run_resC2 Tryz.results7 ty23 (hS.get rfl)
      exact st_ret hS hr ⟨_, rfl, hv, hS.get rfl, trivial⟩
    have h := ite_f hb h
    refine wp_skip ?_
    refine et ?_
    obtain ⟨v_15, e_16, h⟩ := bind_some h
    obtain ⟨z_17, e_18, h⟩ := bind_some h
    refine l_start ?_
    refine s_c hS (sg (sp_move (od rfl))) rfl fun a w hS hM => ?_
    refine s_c hS (sg (sp_move (od rfl))) rfl fun a w hS hM => ?_
    refine s_c hS (sg (sp_indexAddrPI ar61 (od rfl) (od rfl) e_16)) rfl fun a w hS hM => ?_
    refine s_storeP (k := 1) (off := i_5.toNat * Enc.size Int) (Δ := [(0, isV (α := ByteArray) p0), (2, Pr.ptr b_1), (5, Pr.ptr b_4), (19, isV (α := List ByteArray) v_2), (20, isV (α := Int) (v_2.length : Int)), (21, isV (α := Int) i_5), (35, isV (α := Int) v_13.1), (36, Pr.is (.pointer (some ⟨b_4, i_5.toNat * Enc.size Int, none⟩)))]) ty3 hS rfl ⟨od rfl, od rfl, od rfl, od rfl, od rfl, od rfl, od rfl, od rfl, trivial⟩ ⟨fun _ _ _ _ h => h, fun _ _ _ _ h => h, fun _ _ _ _ h => h, fun _ _ _ _ h => h, fun _ _ _ _ h => h, fun _ _ _ _ h => h, fun _ _ _ _ h => h, fun _ _ _ _ h => h, trivial⟩ (od rfl) (od rfl) (SetF.vec e_18) fun w hS hM => ?_
    have hS : St _ F0 [Item.box (α := S_api_Offer) 23 b_1 ((0, 0, 0, 0) : S_api_Offer), Item.box (α := Vector Int 4) 61 b_4 z_17] _ w0 _ _ := hS
    refine l_end ?_
    refine exit_block ?_
    refine et ?_
    refine st_reg mixed (by kernel_rfl) hS ?_
    refine cg (sp_add (od rfl) (odi)) ?_
    refine mv rfl ?_
    refine sn fun a w hS => ?_
    cases h
    exact ⟨k_8, _, _, rfl, hN_8 _ rfl, hS.weak ⟨od rfl, od rfl, od rfl, od rfl, od rfl, od (congrArg (fun z => some (isV (α := Int) z)) hw_8), trivial⟩⟩
  refine wp_exit ?_
  obtain rfl := for_done hF_8 hb
  have h := elim_again hr_10
  refine exit_thenE ?_
  refine exit_thenE ?_
  refine exit_here ?_
  refine et ?_
  refine ws ?_
  obtain ⟨v_19, e_20, h⟩ := bind_some h
  obtain ⟨v_21, e_22, h⟩ := bind_some h
  obtain ⟨v_23, e_24, h⟩ := bind_some h
  obtain ⟨v_25, e_26, h⟩ := bind_some h
  refine l_start ?_
  have hS := st_box 1 5 hS rfl rfl
  refine s_c hS (sg (sp_indexAddrAB ar61 (odB rfl) (odi) e_20)) rfl fun a w hS hM => ?_
  refine s_c hS (sg (sp_loadB ty3 (od rfl))) rfl fun a w hS hM => ?_
  refine s_c hS (sg (sp_indexAddrAB ar61 (odB rfl) (odi) e_22)) rfl fun a w hS hM => ?_
  refine s_c hS (sg (sp_loadB ty3 (od rfl))) rfl fun a w hS hM => ?_
  refine s_c hS (sg (sp_indexAddrAB ar61 (odB rfl) (odi) e_24)) rfl fun a w hS hM => ?_
  refine s_c hS (sg (sp_loadB ty3 (od rfl))) rfl fun a w hS hM => ?_
  refine s_c hS (sg (sp_indexAddrAB ar61 (odB rfl) (odi) e_26)) rfl fun a w hS hM => ?_
  refine s_c hS (sg (sp_loadB ty3 (od rfl))) rfl fun a w hS hM => ?_
  refine s_c hS (sg (bd23_0123 (od rfl) (od rfl) (od rfl) (od rfl))) rfl fun a w hS hM => ?_
  refine s_allocStore ze23 hS (od rfl) (fun k hk => by cases hk; rfl) rfl fun a w hS hM => ?_
  refine l_end ?_
  refine et ?_
  refine ws ?_
  refine ws ?_
  obtain ⟨v_27, e_28, h⟩ := bind_some h
  have hS := st_drop 1 hS
  refine l_start ?_
  refine s_c hS (sg (sp_load ty23 (od rfl))) rfl fun a w hS hM => ?_
  refine s_callT en5 (f5_ok e_28) hT hS ⟨od rfl, trivial⟩ rfl fun a w hS hM => ?_
  refine s_c hS (sg (sp_move (od rfl))) rfl fun a w hS hM => ?_
  refine s_c hS (sg (sp_extract (od rfl) rfl)) rfl fun a w hS hM => ?_
  refine s_c hS (sg (sp_extract (od rfl) rfl)) rfl fun a w hS hM => ?_
  refine s_c hS (sg (sp_assign (od rfl))) rfl fun a w hS hM => ?_
  refine s_c hS (sg (sp_assign (od rfl))) rfl fun a w hS hM => ?_
  refine l_end ?_
  refine et ?_
  refine ws ?_
  refine st_reg mixed (by kernel_rfl) hS ?_
  refine mv rfl ?_
  refine cg (sp_neq (od rfl) (odi)) ?_
  refine mv rfl ?_
  refine sc (sgF rfl fun hG => sp_move (od rfl)) ?_
  refine sc (sgF rfl fun hG => sp_move (od rfl)) ?_
  refine sc (sgF rfl fun hG => sp_neqStr (odw rfl hG) (odw rfl hG)) ?_
  refine cg (sp_pickOr (od rfl) fun hg => odw rfl (not_t hg)) ?_
  refine sn fun a w hS => ?_
  refine et ?_
  refine st_cond hS rfl (fun hb => ?_) (fun hb => ?_)
  · have h := ite_t hb h
    refine ws ?_
    refine l_start ?_
    refine s_c hS (sg (bd23_ )) rfl fun a w hS hM => ?_
    refine s_storeB (k := 0) (Δ := [(2, Pr.ptr b_1), (59, isV (α := S_api_Offer) ((0, 0, 0, 0) : S_api_Offer))]) ty23 hS rfl ⟨od rfl, od rfl, trivial⟩ ⟨fun _ _ _ _ h => h, fun _ _ _ _ h => h, trivial⟩ rfl (od rfl) fun w hS hM => ?_
    have hS : St _ F0 [Item.box (α := S_api_Offer) 23 b_1 ((0, 0, 0, 0) : S_api_Offer)] _ w0 _ _ := hS
    refine s_c hS (sg (sp_assign (odi))) rfl fun a w hS hM => ?_
    refine l_end ?_
    refine et ?_
    refine wp_ret ?_
    refine exit_thenR ?_
    have hS := st_freezeB 0 2 hS rfl rfl
    cases h
    obtain ⟨v, hr, hv⟩ := run_resC2 Tryz.results7 ty23 (hS.get rfl)
    exact st_ret hS hr ⟨_, rfl, hv, hS.get rfl, trivial⟩
  have h := ite_f hb h
  refine wp_skip ?_
  refine et ?_
  refine ws ?_
  refine l_start ?_
  refine s_c hS (sg (sp_load ty23 (od rfl))) rfl fun a w hS hM => ?_
  refine s_storeB (k := 0) (Δ := [(2, Pr.ptr b_1), (60, isV (α := S_api_Offer) ((v_19, v_21, v_23, v_25) : S_api_Offer))]) ty23 hS rfl ⟨od rfl, od rfl, trivial⟩ ⟨fun _ _ _ _ h => h, fun _ _ _ _ h => h, trivial⟩ rfl (od rfl) fun w hS hM => ?_
  have hS : St _ F0 [Item.box (α := S_api_Offer) 23 b_1 ((v_19, v_21, v_23, v_25) : S_api_Offer)] _ w0 _ _ := hS
  refine s_c hS (sg (sp_assign (odi))) rfl fun a w hS hM => ?_
  refine l_end ?_
  refine et ?_
  refine wp_ret ?_
  have hS := st_freezeB 0 2 hS rfl rfl
  cases h
  obtain ⟨v, hr, hv⟩ := run_resC2 Tryz.results7 ty23 (hS.get rfl)
  exact st_ret hS hr ⟨_, rfl, hv, hS.get rfl, trivial⟩

theorem f28_ok {fuel : Nat} {p0 : ByteArray} {r : Int} (h : M.f28 fuel p0 = some r) : CallOK Tryz.prog 28 [isV p0] (isV r) := by
  unfold M.f28 at h
  refine callS_of Tryz.func28 rfl Tryz.ntmps28 rfl fun F0 w0 a hS => ?_
  refine ws ?_
  refine st_reg mixed (by kernel_rfl) hS ?_
  refine cg (sp_assign (odi)) ?_
  refine sn fun a w hS => ?_
  refine et ?_
  refine ws ?_
  refine st_reg mixed (by kernel_rfl) hS ?_
  refine cg (sp_assign (odi)) ?_
  refine sn fun a w hS => ?_
  refine et ?_
  refine ws ?_
  refine ws ?_
  refine st_reg mixed (by kernel_rfl) hS ?_
  refine cg (sp_assign (odi)) ?_
  refine sn fun a w hS => ?_
  refine et ?_
  refine wp_block ?_
  obtain ⟨o_2, e_3, hr_4⟩ := bind_some h
  refine c_loop (fun K a w => ∃ s_1 : Int × Int, loopM _ K s_1 = some o_2 ∧ St 36 F0 [] [(0, isV (α := ByteArray) p0), (3, isV (α := Int) s_1.1), (4, isV (α := Int) s_1.2)] w0 a w) ?_ ?_ ⟨_, e_3, hS.weak ⟨od rfl, od rfl, od rfl, trivial⟩⟩
  · rintro a w ⟨_, hk, _⟩; cases hk
  rintro K a w ⟨s_1, hF_2, hS⟩
  obtain ⟨o, h, hN_2, hL_2⟩ := loop_more hF_2
  refine ws ?_
  refine ws ?_
  refine st_reg mixed (by kernel_rfl) hS ?_
  refine mv rfl ?_
  refine mv rfl ?_
  refine cg (sp_lenS Tryz.underlying9 (od rfl)) ?_
  refine cg (sp_lss (od rfl) (od rfl)) ?_
  refine sn fun a w hS => ?_
  refine et ?_
  refine st_cond hS rfl (fun hb => ?_) (fun hb => ?_)
  · have h := ite_t hb h
    refine wp_skip ?_
    refine et ?_
    refine ws ?_
    refine wp_block ?_
    refine ws ?_
    refine ws ?_
    obtain ⟨v_5, e_6, h⟩ := bind_some h
    obtain ⟨v_7, e_8, h⟩ := bind_some h
    refine st_reg mixed (by kernel_rfl) hS ?_
    refine mv rfl ?_
    refine mv rfl ?_
    refine cg (sp_strIdx Tryz.underlying9 (od rfl) (od rfl) e_6) ?_
    refine cg (sp_lss8 (od rfl) (odu8 48 rfl)) ?_
    refine mv rfl ?_
    refine sc (sgF rfl fun hG => sp_move (od rfl)) ?_
    refine sc (sgF rfl fun hG => sp_move (od rfl)) ?_
    refine sc (sgF rfl fun hG => sp_strIdx Tryz.underlying9 (odw rfl hG) (odw rfl hG) (guard_some e_8 hG)) ?_
    refine sc (sgF rfl fun hG => sp_gtr8 (odw rfl hG) (odu8 57 rfl)) ?_
    refine cg (sp_pickOr (od rfl) fun hg => odw rfl (not_t hg)) ?_
    refine mv rfl ?_
    refine sc (sgF rfl fun hG => sp_move (od rfl)) ?_
    refine sc (sgF rfl fun hG => sp_gtr (odw rfl hG) (odi)) ?_
    refine cg (sp_pickOr (od rfl) fun hg => odw rfl (not_t hg)) ?_
    refine sn fun a w hS => ?_
    refine et ?_
    refine st_cond hS rfl (fun hb => ?_) (fun hb => ?_)
    · have h := ite_t hb h
      refine ws ?_
      refine st_reg mixed (by kernel_rfl) hS ?_
      refine cg (sp_assign (odi)) ?_
      refine sn fun a w hS => ?_
      refine et ?_
      refine wp_ret ?_
      refine exit_thenR ?_
      refine exit_blockR ?_
      refine exit_thenR ?_
      cases h
      obtain rfl := hL_2 _ rfl
      have h := (sum_inr hr_4)
      refine exit_thenR ?_
      refine exit_blockR ?_
      refine exit_thenR ?_
      cases h
      exact st_ret hS (run_results1 Tryz.results28 a w) (hS.get rfl)
    have h := ite_f hb h
    refine wp_skip ?_
    refine et ?_
    obtain ⟨v_9, e_10, h⟩ := bind_some h
    refine st_reg mixed (by kernel_rfl) hS ?_
    refine mv rfl ?_
    refine cg (sp_mul (odi) (od rfl)) ?_
    refine mv rfl ?_
    refine mv rfl ?_
    refine cg (sp_strIdx Tryz.underlying9 (od rfl) (od rfl) e_10) ?_
    refine cg (sp_sub8 (od rfl) (odu8 48 rfl)) ?_
    refine cg (sp_conv8 Tryz.underlying5 Tryz.underlying3 (od rfl)) ?_
    refine cg (sp_add (od rfl) (od rfl)) ?_
    refine cg (sp_assign (od rfl)) ?_
    refine sn fun a w hS => ?_
    refine exit_block ?_
    refine et ?_
    refine st_reg mixed (by kernel_rfl) hS ?_
    refine mv rfl ?_
    refine cg (sp_add (od rfl) (odi)) ?_
    refine cg (sp_assign (od rfl)) ?_
    refine sn fun a w hS => ?_
    cases h
    exact ⟨_, hN_2 _ rfl, hS.weak ⟨od rfl, od rfl, od rfl, trivial⟩⟩
  have h := ite_f hb h
  refine wp_exit ?_
  refine exit_thenE ?_
  cases h
  obtain rfl := hL_2 _ rfl
  have h := (sum_inl hr_4)
  refine exit_thenE ?_
  refine exit_here ?_
  refine et ?_
  refine ws ?_
  refine ws ?_
  refine st_reg mixed (by kernel_rfl) hS ?_
  refine mv rfl ?_
  refine cg (sp_eqlStr (od rfl) (ods)) ?_
  refine sn fun a w hS => ?_
  refine et ?_
  refine st_cond hS rfl (fun hb => ?_) (fun hb => ?_)
  · have h := ite_t hb h
    refine ws ?_
    refine st_reg mixed (by kernel_rfl) hS ?_
    refine cg (sp_assign (odi)) ?_
    refine sn fun a w hS => ?_
    refine et ?_
    refine wp_ret ?_
    refine exit_thenR ?_
    cases h
    exact st_ret hS (run_results1 Tryz.results28 a w) (hS.get rfl)
  have h := ite_f hb h
  refine wp_skip ?_
  refine et ?_
  refine ws ?_
  refine st_reg mixed (by kernel_rfl) hS ?_
  refine mv rfl ?_
  refine cg (sp_assign (od rfl)) ?_
  refine sn fun a w hS => ?_
  refine et ?_
  refine wp_ret ?_
  cases h
  exact st_ret hS (run_results1 Tryz.results28 a w) (hS.get rfl)

theorem f8_ok {fuel : Nat} {p0 : ByteArray} {r : S_api_Offer × Int} (h : M.f8 fuel p0 = some r) : CallT Tryz.prog 8 [isV p0] (isTup [isV r.1, isV r.2]) := by
  unfold M.f8 at h
  refine callT_of Tryz.func8 rfl Tryz.ntmps8 rfl fun F0 w0 a hT hS => ?_
  refine ws ?_
  refine l_start ?_
  refine s_alloc zi23 hS rfl fun a w b_1 hS hM => ?_
  have hS : St _ F0 [Item.box (α := S_api_Offer) 23 b_1 ((0, 0, 0, 0) : S_api_Offer)] _ w0 _ _ := hS
  refine s_c hS (sg (sp_assign (odi))) rfl fun a w hS hM => ?_
  refine l_end ?_
  refine et ?_
  refine ws ?_
  refine l_start ?_
  refine s_build [.const (.string ⟨#[]⟩)] ([(⟨#[]⟩ : ByteArray)] : List ByteArray) sl60 ze9 rfl rfl rfl rfl hS ⟨ods, trivial⟩ rfl fun a w u_2 hS hM => ?_
  have hS : St _ F0 [Item.box (α := S_api_Offer) 23 b_1 ((0, 0, 0, 0) : S_api_Offer), Item.sl (α := ByteArray) 9 u_2 ([(⟨#[]⟩ : ByteArray)] : List ByteArray)] _ w0 _ _ := hS
  refine s_c hS (sg (sp_assign (od rfl))) rfl fun a w hS hM => ?_
  refine l_end ?_
  refine et ?_
  refine ws ?_
  refine ws ?_
  refine st_reg mixed (by kernel_rfl) hS ?_
  refine cg (sp_assign (odi)) ?_
  refine sn fun a w hS => ?_
  refine et ?_
  refine wp_block ?_
  obtain ⟨o_4, e_5, hr_6⟩ := bind_some h
  refine c_loop (fun K a w => ∃ s_3 : Int × (List ByteArray), ∃ u_7 : Value, loopM _ K s_3 = some o_4 ∧ St 71 F0 [Item.box (α := S_api_Offer) 23 b_1 ((0, 0, 0, 0) : S_api_Offer), Item.sl (α := ByteArray) 9 u_7 s_3.2] [(0, isV (α := ByteArray) p0), (2, Pr.ptr b_1), (4, Pr.is u_7), (5, isV (α := Int) s_3.1)] w0 a w) ?_ ?_ ⟨_, u_2, e_5, hS.weak ⟨od rfl, od rfl, od rfl, od rfl, trivial⟩⟩
  · rintro a w ⟨_, _, hk, _⟩; cases hk
  rintro K a w ⟨s_3, u_7, hF_4, hS⟩
  obtain ⟨o, h, hN_4, hL_4⟩ := loop_more hF_4
  refine ws ?_
  refine ws ?_
  refine st_reg mixed (by kernel_rfl) hS ?_
  refine mv rfl ?_
  refine mv rfl ?_
  refine cg (sp_lenS Tryz.underlying9 (od rfl)) ?_
  refine cg (sp_lss (od rfl) (od rfl)) ?_
  refine sn fun a w hS => ?_
  refine et ?_
  refine st_cond hS rfl (fun hb => ?_) (fun hb => ?_)
  · have h := ite_t hb h
    refine wp_skip ?_
    refine et ?_
    refine ws ?_
    refine wp_block ?_
    refine ws ?_
    obtain ⟨v_8, e_9, h⟩ := bind_some h
    refine st_reg mixed (by kernel_rfl) hS ?_
    refine mv rfl ?_
    refine mv rfl ?_
    refine cg (sp_strIdx Tryz.underlying9 (od rfl) (od rfl) e_9) ?_
    refine cg (sp_eql8 (od rfl) (odu8 32 rfl)) ?_
    refine sn fun a w hS => ?_
    refine et ?_
    obtain ⟨y_11, hj_10, h⟩ := bind_some h
    refine wp_mono (Q := fun e a w => e = Exit.normal ∧ ∃ u_12 : Value, St 71 F0 [Item.box (α := S_api_Offer) 23 b_1 ((0, 0, 0, 0) : S_api_Offer), Item.sl (α := ByteArray) 9 u_12 y_11] [(0, isV (α := ByteArray) p0), (2, Pr.ptr b_1), (4, Pr.is u_12), (5, isV (α := Int) s_3.1)] w0 a w) ?_ ?_
    · refine st_cond hS rfl (fun hb => ?_) (fun hb => ?_)
      · have h := ite_t hb hj_10
        obtain ⟨z_13, e_14, h⟩ := bind_some h
        refine l_start ?_
        refine s_c hS (sg (sp_move (od rfl))) rfl fun a w hS hM => ?_
        refine s_c hS (sg (sp_buildSlice [.const (.string ⟨#[]⟩)] ([(⟨#[]⟩ : ByteArray)] : List ByteArray) sl60 ze9 rfl rfl rfl rfl ⟨ods, trivial⟩)) rfl fun a w hS hM => ?_
        refine s_append (k := 1) (Δ := [(0, isV (α := ByteArray) p0), (2, Pr.ptr b_1), (5, isV (α := Int) s_3.1), (20, Pr.is u_7), (21, isV (α := List ByteArray) ([(⟨#[]⟩ : ByteArray)] : List ByteArray))]) sl60 ze9 hS rfl ⟨od rfl, od rfl, od rfl, od rfl, od rfl, trivial⟩ ⟨fun _ _ _ _ h => h, fun _ _ _ _ h => h, fun _ _ _ _ h => h, fun _ _ _ _ h => h, fun _ _ _ _ h => h, trivial⟩ (od rfl) (od rfl) e_14 rfl fun a w u_15 hS hM => ?_
        have hS : St _ F0 [Item.box (α := S_api_Offer) 23 b_1 ((0, 0, 0, 0) : S_api_Offer), Item.sl (α := ByteArray) 9 u_15 z_13] _ w0 _ _ := hS
        refine s_c hS (sg (sp_assign (od rfl))) rfl fun a w hS hM => ?_
        refine l_end ?_
        cases h
        exact ⟨rfl, u_15, hS.weak ⟨od rfl, od rfl, od rfl, od rfl, trivial⟩⟩
      have h := ite_f hb hj_10
      have hS := st_os 1 4 hS rfl rfl
      obtain ⟨v_16, e_17, h⟩ := bind_some h
      obtain ⟨v_18, e_19, h⟩ := bind_some h
      obtain ⟨v_20, e_21, h⟩ := bind_some h
      obtain ⟨v_22, e_23, h⟩ := bind_some h
      obtain ⟨z_24, e_25, h⟩ := bind_some h
      refine st_float mixed [0, 0, 0, 0, 0, 0, 0, 0, 0, 0, 0, 0, 0, 2] (by kernel_rfl) (by kernel_rfl) hS ?_
      refine sfA (sg (sp_move (od rfl))) ?_
      refine sfA (sg (sp_move (od rfl))) ?_
      refine sfA (sg (sp_lenOS Tryz.underlying60 (od rfl))) ?_
      refine sfA (sg (sp_sub (od rfl) (odi))) ?_
      refine sfA (sg (sp_indexAddrOS sl60 (od rfl) (od rfl) e_17)) ?_
      refine sfA (sg (sp_loadEA ty9 (od rfl))) ?_
      refine sfA (sg (sp_move (od rfl))) ?_
      refine sfA (sg (sp_move (od rfl))) ?_
      refine sfA (sg (sp_move (od rfl))) ?_
      refine sfA (sg (sp_add (od rfl) (odi))) ?_
      refine sfA (sg (sp_strSub Tryz.underlying9 (od rfl) (od rfl) (od rfl) e_19)) ?_
      refine sfA (sg (sp_cat (od rfl) (od rfl) e_21)) ?_
      refine sfA (sg (sp_indexAddrOS sl60 (od rfl) (od rfl) e_23)) ?_
      refine sfT ?_
      refine sfN fun c a w hS hC => ?_
      refine ls ?_
      refine s_storeEA (k := 1) (j := (wr ((s_3.2.length : Int) - 1))) (Δ := [(0, isV (α := ByteArray) p0), (2, Pr.ptr b_1), (4, Pr.is u_7), (5, isV (α := Int) s_3.1), (34, isV (α := ByteArray) v_20), (35, isEP ByteArray u_7 (wr ((s_3.2.length : Int) - 1)).toNat)]) ty9 hS rfl ⟨od rfl, od rfl, odOS rfl, od rfl, od rfl, odEP rfl, trivial⟩ ⟨fun _ _ _ _ h => h, fun _ _ _ _ h => h, fun _ _ _ _ h => h, fun _ _ _ _ h => h, fun _ _ _ _ h => h, fun _ _ _ _ h => h, trivial⟩ (odEP rfl) (od rfl) e_25 fun w hS hM => ?_
      have hS : St _ F0 [Item.box (α := S_api_Offer) 23 b_1 ((0, 0, 0, 0) : S_api_Offer), Item.sl (α := ByteArray) 9 u_7 z_24] _ w0 _ _ := hS
      have hC := Mem.le_trans hC hM
      refine s_next hC ?_
      refine s_done ?_
      cases h
      exact ⟨rfl, u_7, hS.weak ⟨od rfl, od rfl, od rfl, od rfl, trivial⟩⟩
    rintro e a w ⟨rfl, u_12, hS⟩
    refine exit_block ?_
    refine et ?_
    refine st_reg mixed (by kernel_rfl) hS ?_
    refine mv rfl ?_
    refine cg (sp_add (od rfl) (odi)) ?_
    refine cg (sp_assign (od rfl)) ?_
    refine sn fun a w hS => ?_
    cases h
    exact ⟨_, u_12, hN_4 _ rfl, hS.weak ⟨od rfl, od rfl, od rfl, od rfl, trivial⟩⟩
  have h := ite_f hb h
  refine wp_exit ?_
  refine exit_thenE ?_
  cases h
  obtain rfl := hL_4 _ rfl
  have h := hr_6
  refine exit_thenE ?_
  refine exit_here ?_
  refine et ?_
  refine ws ?_
  refine ws ?_
  have hS := st_os 1 4 hS rfl rfl
  refine st_reg mixed (by kernel_rfl) hS ?_
  refine mv rfl ?_
  refine cg (sp_lenOS Tryz.underlying60 (od rfl)) ?_
  refine cg (sp_neq (od rfl) (odi)) ?_
  refine sn fun a w hS => ?_
  refine et ?_
  refine st_cond hS rfl (fun hb => ?_) (fun hb => ?_)
  · have h := ite_t hb h
    refine ws ?_
    have hS := st_drop 1 hS
    refine l_start ?_
    refine s_c hS (sg (bd23_ )) rfl fun a w hS hM => ?_
    refine s_storeB (k := 0) (Δ := [(2, Pr.ptr b_1), (39, isV (α := S_api_Offer) ((0, 0, 0, 0) : S_api_Offer))]) ty23 hS rfl ⟨od rfl, od rfl, trivial⟩ ⟨fun _ _ _ _ h => h, fun _ _ _ _ h => h, trivial⟩ rfl (od rfl) fun w hS hM => ?_
    have hS : St _ F0 [Item.box (α := S_api_Offer) 23 b_1 ((0, 0, 0, 0) : S_api_Offer)] _ w0 _ _ := hS
    refine s_c hS (sg (sp_assign (odi))) rfl fun a w hS hM => ?_
    refine l_end ?_
    refine et ?_
    refine wp_ret ?_
    refine exit_thenR ?_
    have hS := st_freezeB 0 2 hS rfl rfl
    cases h
    obtain ⟨v, hr, hv⟩ := run_resC2 Tryz.results8 ty23 (hS.get rfl)
    exact st_ret hS hr ⟨_, rfl, hv, hS.get rfl, trivial⟩
  have h := ite_f hb h
  refine wp_skip ?_
  refine et ?_
  refine ws ?_
  have hS := hS.weak (Δ := [(0, isV (α := ByteArray) p0), (2, Pr.ptr b_1), (4, Pr.is u_7), (5, isV (α := Int) s_3.1), (10, isV (α := Int) s_3.1), (11, isV (α := ByteArray) p0), (12, isV (α := Int) (p0.size : Int)), (13, isV (α := Bool) (decide (s_3.1 < (p0.size : Int)))), (36, Pr.is u_7), (37, isV (α := Int) (s_3.2.length : Int)), (38, isV (α := Bool) ((s_3.2.length : Int) != 4))]) ⟨od rfl, od rfl, odOS rfl, od rfl, od rfl, od rfl, od rfl, od rfl, odOS rfl, od rfl, od rfl, trivial⟩
  have hS0 := hS
  have hS := st_freeze 1 4 hS rfl rfl
  have hS := st_also (t := 4) (q := 36) hS0 hS rfl rfl rfl
  obtain ⟨v_26, e_27, h⟩ := bind_some h
  obtain ⟨v_28, e_29, h⟩ := bind_some h
  obtain ⟨v_30, e_31, h⟩ := bind_some h
  obtain ⟨v_32, e_33, h⟩ := bind_some h
  obtain ⟨v_34, e_35, h⟩ := bind_some h
  obtain ⟨v_36, e_37, h⟩ := bind_some h
  obtain ⟨v_38, e_39, h⟩ := bind_some h
  obtain ⟨v_40, e_41, h⟩ := bind_some h
  have hS := hS.weak (Δ := [(0, isV (α := ByteArray) p0), (2, Pr.ptr b_1), (4, isV (α := List ByteArray) s_3.2), (5, isV (α := Int) s_3.1), (10, isV (α := Int) s_3.1), (11, isV (α := ByteArray) p0), (12, isV (α := Int) (p0.size : Int)), (13, isV (α := Bool) (decide (s_3.1 < (p0.size : Int)))), (36, isV (α := List ByteArray) s_3.2), (37, isV (α := Int) (s_3.2.length : Int)), (38, isV (α := Bool) ((s_3.2.length : Int) != 4))]) ⟨od rfl, od rfl, od rfl, od rfl, od rfl, od rfl, od rfl, od rfl, od rfl, od rfl, od rfl, trivial⟩
  refine st_pairs mixed [0, 0, 0, 0, 0, 0, 0, 0, 0, 0, 0, 0, 0, 0, 0, 0, 0, 3, 4] [⟨17, 18, 6, 23, S_api_Offer, inferInstance, ((0, 0, 0, 0) : S_api_Offer), ((v_28, v_32, v_36, v_40) : S_api_Offer)⟩] (by kernel_rfl) (by kernel_rfl) hS ⟨fun _ _ _ _ h => h, fun _ _ _ _ h => h, fun _ _ _ _ h => h, fun _ _ _ _ h => h, fun _ _ _ _ h => h, fun _ _ _ _ h => h, fun _ _ _ _ h => h, fun _ _ _ _ h => h, fun _ _ _ _ h => h, fun _ _ _ _ h => h, fun _ _ _ _ h => h, trivial⟩ ?_
  refine sq0 (fun _ _ _ _ h => h) (sg (sp_move (od rfl))) ?_
  refine sq0 (fun _ _ _ _ h => h) (sg (sp_indexAddr sl60 (od rfl) (odi) e_27)) ?_
  refine sq0 (fun _ _ _ _ h => h) (sg (sp_load ty9 (od rfl))) ?_
  refine sq0 (fun _ _ _ _ h => h) (sg (sp_call en28 (f28_ok e_29) ⟨od rfl, trivial⟩)) ?_
  refine sq0 (fun _ _ _ _ h => h) (sg (sp_move (od rfl))) ?_
  refine sq0 (fun _ _ _ _ h => h) (sg (sp_indexAddr sl60 (od rfl) (odi) e_31)) ?_
  refine sq0 (fun _ _ _ _ h => h) (sg (sp_load ty9 (od rfl))) ?_
  refine sq0 (fun _ _ _ _ h => h) (sg (sp_call en28 (f28_ok e_33) ⟨od rfl, trivial⟩)) ?_
  refine sq0 (fun _ _ _ _ h => h) (sg (sp_move (od rfl))) ?_
  refine sq0 (fun _ _ _ _ h => h) (sg (sp_indexAddr sl60 (od rfl) (odi) e_35)) ?_
  refine sq0 (fun _ _ _ _ h => h) (sg (sp_load ty9 (od rfl))) ?_
  refine sq0 (fun _ _ _ _ h => h) (sg (sp_call en28 (f28_ok e_37) ⟨od rfl, trivial⟩)) ?_
  refine sq0 (fun _ _ _ _ h => h) (sg (sp_move (od rfl))) ?_
  refine sq0 (fun _ _ _ _ h => h) (sg (sp_indexAddr sl60 (od rfl) (odi) e_39)) ?_
  refine sq0 (fun _ _ _ _ h => h) (sg (sp_load ty9 (od rfl))) ?_
  refine sq0 (fun _ _ _ _ h => h) (sg (sp_call en28 (f28_ok e_41) ⟨od rfl, trivial⟩)) ?_
  refine sq0 (fun _ _ _ _ h => h) (sg (bd23_0123 (od rfl) (od rfl) (od rfl) (od rfl))) ?_
  refine sqA 0 rfl zi23 ?_
  refine sqS 0 rfl ty23 (od rfl) ?_
  refine sqN fun a w bs hl hS => ?_
  obtain ⟨b_42, rfl⟩ := len1 hl
  have hS : St _ F0 [Item.box (α := S_api_Offer) 23 b_1 ((0, 0, 0, 0) : S_api_Offer), Item.box (α := S_api_Offer) 23 b_42 (((v_28, v_32, v_36, v_40) : S_api_Offer) : S_api_Offer)] ((6, Pr.ptr b_42) :: _) w0 _ _ := hS
  have hS := st_freezeB 1 6 hS rfl rfl
  refine et ?_
  refine ws ?_
  obtain ⟨v_43, e_44, h⟩ := bind_some h
  refine l_start ?_
  refine s_c hS (sg (sp_load ty23 (od rfl))) rfl fun a w hS hM => ?_
  refine s_callT en6 (f6_ok e_44) hT hS ⟨od rfl, trivial⟩ rfl fun a w hS hM => ?_
  refine s_c hS (sg (sp_move (od rfl))) rfl fun a w hS hM => ?_
  refine s_c hS (sg (sp_extract (od rfl) rfl)) rfl fun a w hS hM => ?_
  refine s_c hS (sg (sp_extract (od rfl) rfl)) rfl fun a w hS hM => ?_
  refine s_c hS (sg (sp_assign (od rfl))) rfl fun a w hS hM => ?_
  refine s_c hS (sg (sp_assign (od rfl))) rfl fun a w hS hM => ?_
  refine l_end ?_
  refine et ?_
  refine ws ?_
  refine ws ?_
  refine st_reg mixed (by kernel_rfl) hS ?_
  refine mv rfl ?_
  refine cg (sp_neq (od rfl) (odi)) ?_
  refine mv rfl ?_
  refine sc (sgF rfl fun hG => sp_move (od rfl)) ?_
  refine sc (sgF rfl fun hG => sp_move (od rfl)) ?_
  refine sc (sgF rfl fun hG => sp_neqStr (odw rfl hG) (odw rfl hG)) ?_
  refine cg (sp_pickOr (od rfl) fun hg => odw rfl (not_t hg)) ?_
  refine sn fun a w hS => ?_
  refine et ?_
  refine st_cond hS rfl (fun hb => ?_) (fun hb => ?_)
  · have h := ite_t hb h
    refine ws ?_
    refine l_start ?_
    refine s_c hS (sg (bd23_ )) rfl fun a w hS hM => ?_
    refine s_storeB (k := 0) (Δ := [(2, Pr.ptr b_1), (69, isV (α := S_api_Offer) ((0, 0, 0, 0) : S_api_Offer))]) ty23 hS rfl ⟨od rfl, od rfl, trivial⟩ ⟨fun _ _ _ _ h => h, fun _ _ _ _ h => h, trivial⟩ rfl (od rfl) fun w hS hM => ?_
    have hS : St _ F0 [Item.box (α := S_api_Offer) 23 b_1 ((0, 0, 0, 0) : S_api_Offer)] _ w0 _ _ := hS
    refine s_c hS (sg (sp_assign (odi))) rfl fun a w hS hM => ?_
    refine l_end ?_
    refine et ?_
    refine wp_ret ?_
    refine exit_thenR ?_
    have hS := st_freezeB 0 2 hS rfl rfl
    cases h
    obtain ⟨v, hr, hv⟩ := run_resC2 Tryz.results8 ty23 (hS.get rfl)
    exact st_ret hS hr ⟨_, rfl, hv, hS.get rfl, trivial⟩
  have h := ite_f hb h
  refine wp_skip ?_
  refine et ?_
  refine ws ?_
  refine l_start ?_
  refine s_c hS (sg (sp_load ty23 (od rfl))) rfl fun a w hS hM => ?_
  refine s_storeB (k := 0) (Δ := [(2, Pr.ptr b_1), (70, isV (α := S_api_Offer) (((v_28, v_32, v_36, v_40) : S_api_Offer) : S_api_Offer))]) ty23 hS rfl ⟨od rfl, od rfl, trivial⟩ ⟨fun _ _ _ _ h => h, fun _ _ _ _ h => h, trivial⟩ rfl (od rfl) fun w hS hM => ?_
  have hS : St _ F0 [Item.box (α := S_api_Offer) 23 b_1 (((v_28, v_32, v_36, v_40) : S_api_Offer) : S_api_Offer)] _ w0 _ _ := hS
  refine s_c hS (sg (sp_assign (odi))) rfl fun a w hS hM => ?_
  refine l_end ?_
  refine et ?_
  refine wp_ret ?_
  have hS := st_freezeB 0 2 hS rfl rfl
  cases h
  obtain ⟨v, hr, hv⟩ := run_resC2 Tryz.results8 ty23 (hS.get rfl)
  exact st_ret hS hr ⟨_, rfl, hv, hS.get rfl, trivial⟩

theorem f3_ok {fuel : Nat} {p0 : S_api_Offer} {p1 : ByteArray} {r : Bool} (h : M.f3 fuel p0 p1 = some r) : CallT Tryz.prog 3 [isV p0, isV p1] (isV r) := by
  unfold M.f3 at h
  refine callT_of Tryz.func3 rfl Tryz.ntmps3 rfl fun F0 w0 a hT hS => ?_
  refine ws ?_
  refine st_reg mixed (by kernel_rfl) hS ?_
  refine cg (sp_box (od rfl)) ?_
  refine cg (sp_assign (odb)) ?_
  refine sn fun a w hS => ?_
  refine et ?_
  refine ws ?_
  refine ws ?_
  obtain ⟨v_1, e_2, h⟩ := bind_some h
  refine st_reg mixed (by kernel_rfl) hS ?_
  refine cg (sp_call en4 (f4_ok e_2) trivial) ?_
  refine cg (sp_not (od rfl)) ?_
  refine sn fun a w hS => ?_
  refine et ?_
  refine st_cond hS rfl (fun hb => ?_) (fun hb => ?_)
  · have h := ite_t hb h
    refine ws ?_
    refine st_reg mixed (by kernel_rfl) hS ?_
    refine cg (sp_assign (odb)) ?_
    refine sn fun a w hS => ?_
    refine et ?_
    refine wp_ret ?_
    refine exit_thenR ?_
    cases h
    exact st_ret hS (run_results1 Tryz.results3 a w) (hS.get rfl)
  have h := ite_f hb h
  refine wp_skip ?_
  refine et ?_
  refine ws ?_
  refine ws ?_
  refine st_reg mixed (by kernel_rfl) hS ?_
  refine mv rfl ?_
  refine cg (sp_lenS Tryz.underlying9 (od rfl)) ?_
  refine cg (sp_gtr (od rfl) (odi)) ?_
  refine sn fun a w hS => ?_
  refine et ?_
  refine st_cond hS rfl (fun hb => ?_) (fun hb => ?_)
  · have h := ite_t hb h
    refine ws ?_
    refine st_reg mixed (by kernel_rfl) hS ?_
    refine cg (sp_assign (odb)) ?_
    refine sn fun a w hS => ?_
    refine et ?_
    refine wp_ret ?_
    refine exit_thenR ?_
    cases h
    exact st_ret hS (run_results1 Tryz.results3 a w) (hS.get rfl)
  have h := ite_f hb h
  refine wp_skip ?_
  refine et ?_
  refine ws ?_
  obtain ⟨v_3, e_4, h⟩ := bind_some h
  refine l_start ?_
  refine s_c hS (sg (sp_load ty23 (od rfl))) rfl fun a w hS hM => ?_
  refine s_callT en5 (f5_ok e_4) hT hS ⟨od rfl, trivial⟩ rfl fun a w hS hM => ?_
  refine s_c hS (sg (sp_move (od rfl))) rfl fun a w hS hM => ?_
  refine s_c hS (sg (sp_extract (od rfl) rfl)) rfl fun a w hS hM => ?_
  refine s_c hS (sg (sp_extract (od rfl) rfl)) rfl fun a w hS hM => ?_
  refine s_c hS (sg (sp_assign (od rfl))) rfl fun a w hS hM => ?_
  refine s_c hS (sg (sp_assign (od rfl))) rfl fun a w hS hM => ?_
  refine l_end ?_
  refine et ?_
  refine ws ?_
  obtain ⟨v_5, e_6, h⟩ := bind_some h
  refine l_start ?_
  refine s_c hS (sg (sp_load ty23 (od rfl))) rfl fun a w hS hM => ?_
  refine s_callT en6 (f6_ok e_6) hT hS ⟨od rfl, trivial⟩ rfl fun a w hS hM => ?_
  refine s_c hS (sg (sp_move (od rfl))) rfl fun a w hS hM => ?_
  refine s_c hS (sg (sp_extract (od rfl) rfl)) rfl fun a w hS hM => ?_
  refine s_c hS (sg (sp_extract (od rfl) rfl)) rfl fun a w hS hM => ?_
  refine s_c hS (sg (sp_assign (od rfl))) rfl fun a w hS hM => ?_
  refine s_c hS (sg (sp_assign (od rfl))) rfl fun a w hS hM => ?_
  refine l_end ?_
  refine et ?_
  refine ws ?_
  obtain ⟨v_7, e_8, h⟩ := bind_some h
  refine l_start ?_
  refine s_c hS (sg (sp_move (od rfl))) rfl fun a w hS hM => ?_
  refine s_callT en7 (f7_ok e_8) hT hS ⟨od rfl, trivial⟩ rfl fun a w hS hM => ?_
  refine s_c hS (sg (sp_move (od rfl))) rfl fun a w hS hM => ?_
  refine s_c hS (sg (sp_extract (od rfl) rfl)) rfl fun a w hS hM => ?_
  refine s_c hS (sg (sp_extract (od rfl) rfl)) rfl fun a w hS hM => ?_
  refine s_allocStore ze23 hS (od rfl) (fun k hk => by cases hk; rfl) rfl fun a w hS hM => ?_
  refine s_c hS (sg (sp_assign (od rfl))) rfl fun a w hS hM => ?_
  refine l_end ?_
  refine et ?_
  refine ws ?_
  obtain ⟨v_9, e_10, h⟩ := bind_some h
  refine l_start ?_
  refine s_c hS (sg (sp_move (od rfl))) rfl fun a w hS hM => ?_
  refine s_callT en8 (f8_ok e_10) hT hS ⟨od rfl, trivial⟩ rfl fun a w hS hM => ?_
  refine s_c hS (sg (sp_move (od rfl))) rfl fun a w hS hM => ?_
  refine s_c hS (sg (sp_extract (od rfl) rfl)) rfl fun a w hS hM => ?_
  refine s_c hS (sg (sp_extract (od rfl) rfl)) rfl fun a w hS hM => ?_
  refine s_allocStore ze23 hS (od rfl) (fun k hk => by cases hk; rfl) rfl fun a w hS hM => ?_
  refine s_c hS (sg (sp_assign (od rfl))) rfl fun a w hS hM => ?_
  refine l_end ?_
  refine et ?_
  refine ws ?_
  refine ws ?_
  refine st_reg mixed (by kernel_rfl) hS ?_
  refine mv rfl ?_
  refine mv rfl ?_
  refine cg (sp_neqStr (od rfl) (od rfl)) ?_
  refine mv rfl ?_
  refine sc (sgF rfl fun hG => sp_move (od rfl)) ?_
  refine sc (sgF rfl fun hG => sp_move (od rfl)) ?_
  refine sc (sgF rfl fun hG => sp_neq (odw rfl hG) (odw rfl hG)) ?_
  refine cg (sp_pickOr (od rfl) fun hg => odw rfl (not_t hg)) ?_
  refine mv rfl ?_
  refine sc (sgF rfl fun hG => sp_load ty23 (od rfl)) ?_
  refine sc (sgF rfl fun hG => sp_load ty23 (od rfl)) ?_
  refine sc (sgF rfl fun hG => sp_neqS eq23 rfl eg23 rfl (odw rfl hG) (odw rfl hG)) ?_
  refine cg (sp_pickOr (od rfl) fun hg => odw rfl (not_t hg)) ?_
  refine mv rfl ?_
  refine sc (sgF rfl fun hG => sp_move (od rfl)) ?_
  refine sc (sgF rfl fun hG => sp_move (od rfl)) ?_
  refine sc (sgF rfl fun hG => sp_neq (odw rfl hG) (odw rfl hG)) ?_
  refine cg (sp_pickOr (od rfl) fun hg => odw rfl (not_t hg)) ?_
  refine sn fun a w hS => ?_
  refine et ?_
  refine st_cond hS rfl (fun hb => ?_) (fun hb => ?_)
  · have h := ite_t hb h
    refine ws ?_
    refine st_reg mixed (by kernel_rfl) hS ?_
    refine cg (sp_assign (odb)) ?_
    refine sn fun a w hS => ?_
    refine et ?_
    refine wp_ret ?_
    refine exit_thenR ?_
    cases h
    exact st_ret hS (run_results1 Tryz.results3 a w) (hS.get rfl)
  have h := ite_f hb h
  refine wp_skip ?_
  refine et ?_
  refine ws ?_
  refine ws ?_
  refine st_reg mixed (by kernel_rfl) hS ?_
  refine mv rfl ?_
  refine cg (sp_eql (od rfl) (odi)) ?_
  refine sn fun a w hS => ?_
  refine et ?_
  refine st_cond hS rfl (fun hb => ?_) (fun hb => ?_)
  · have h := ite_t hb h
    refine ws ?_
    obtain ⟨v_11, e_12, h⟩ := bind_some h
    refine l_start ?_
    refine s_c hS (sg (sp_move (od rfl))) rfl fun a w hS hM => ?_
    refine s_callT en7 (f7_ok e_12) hT hS ⟨od rfl, trivial⟩ rfl fun a w hS hM => ?_
    refine s_c hS (sg (sp_move (od rfl))) rfl fun a w hS hM => ?_
    refine s_c hS (sg (sp_extract (od rfl) rfl)) rfl fun a w hS hM => ?_
    refine s_c hS (sg (sp_extract (od rfl) rfl)) rfl fun a w hS hM => ?_
    refine s_allocStore ze23 hS (od rfl) (fun k hk => by cases hk; rfl) rfl fun a w hS hM => ?_
    refine s_c hS (sg (sp_assign (od rfl))) rfl fun a w hS hM => ?_
    refine l_end ?_
    refine et ?_
    refine ws ?_
    refine st_reg mixed (by kernel_rfl) hS ?_
    refine mv rfl ?_
    refine cg (sp_neq (od rfl) (odi)) ?_
    refine mv rfl ?_
    refine sc (sgF rfl fun hG => sp_load ty23 (od rfl)) ?_
    refine sc (sgF rfl fun hG => sp_load ty23 (od rfl)) ?_
    refine sc (sgF rfl fun hG => sp_neqS eq23 rfl eg23 rfl (odw rfl hG) (odw rfl hG)) ?_
    refine cg (sp_pickOr (od rfl) fun hg => odw rfl (not_t hg)) ?_
    refine sn fun a w hS => ?_
    refine et ?_
    refine st_cond hS rfl (fun hb => ?_) (fun hb => ?_)
    · have h := ite_t hb h
      refine ws ?_
      refine st_reg mixed (by kernel_rfl) hS ?_
      refine cg (sp_assign (odb)) ?_
      refine sn fun a w hS => ?_
      refine et ?_
      refine wp_ret ?_
      refine exit_thenR ?_
      cases h
      exact st_ret hS (run_results1 Tryz.results3 a w) (hS.get rfl)
    have h := ite_f hb h
    refine wp_skip ?_
    refine et ?_
    refine ws ?_
    obtain ⟨v_13, e_14, h⟩ := bind_some h
    refine l_start ?_
    refine s_c hS (sg (sp_load ty23 (od rfl))) rfl fun a w hS hM => ?_
    refine s_callT en5 (f5_ok e_14) hT hS ⟨od rfl, trivial⟩ rfl fun a w hS hM => ?_
    refine s_c hS (sg (sp_move (od rfl))) rfl fun a w hS hM => ?_
    refine s_c hS (sg (sp_extract (od rfl) rfl)) rfl fun a w hS hM => ?_
    refine s_c hS (sg (sp_extract (od rfl) rfl)) rfl fun a w hS hM => ?_
    refine s_c hS (sg (sp_assign (od rfl))) rfl fun a w hS hM => ?_
    refine s_c hS (sg (sp_assign (od rfl))) rfl fun a w hS hM => ?_
    refine l_end ?_
    refine et ?_
    refine ws ?_
    refine st_reg mixed (by kernel_rfl) hS ?_
    refine mv rfl ?_
    refine cg (sp_neq (od rfl) (odi)) ?_
    refine mv rfl ?_
    refine sc (sgF rfl fun hG => sp_move (od rfl)) ?_
    refine sc (sgF rfl fun hG => sp_eql (odw rfl hG) (odi)) ?_
    refine sc (sgF rfl fun hG => sp_move (odw rfl hG)) ?_
    refine sc (sgwT rfl fun hG => sp_move (od rfl)) ?_
    refine sc (sgwT rfl fun hG => sp_move (od rfl)) ?_
    refine sc (sgwT rfl fun hG => sp_eqlStr (odw rfl hG) (odw rfl hG)) ?_
    refine sc (sgF rfl fun hG => sp_pickAnd (odw rfl hG) fun hg => odw rfl (and_mk hG hg)) ?_
    refine cg (sp_pickOr (od rfl) fun hg => odw rfl (not_t hg)) ?_
    refine cg (sp_assign (od rfl)) ?_
    refine sn fun a w hS => ?_
    refine et ?_
    refine wp_ret ?_
    cases h
    exact st_ret hS (run_results1 Tryz.results3 a w) (hS.get rfl)
  have h := ite_f hb h
  refine wp_skip ?_
  refine et ?_
  refine ws ?_
  obtain ⟨v_15, e_16, h⟩ := bind_some h
  refine l_start ?_
  refine s_c hS (sg (sp_load ty23 (od rfl))) rfl fun a w hS hM => ?_
  refine s_callT en5 (f5_ok e_16) hT hS ⟨od rfl, trivial⟩ rfl fun a w hS hM => ?_
  refine s_c hS (sg (sp_move (od rfl))) rfl fun a w hS hM => ?_
  refine s_c hS (sg (sp_extract (od rfl) rfl)) rfl fun a w hS hM => ?_
  refine s_c hS (sg (sp_extract (od rfl) rfl)) rfl fun a w hS hM => ?_
  refine s_c hS (sg (sp_assign (od rfl))) rfl fun a w hS hM => ?_
  refine s_c hS (sg (sp_assign (od rfl))) rfl fun a w hS hM => ?_
  refine l_end ?_
  refine et ?_
  refine ws ?_
  refine st_reg mixed (by kernel_rfl) hS ?_
  refine mv rfl ?_
  refine cg (sp_neq (od rfl) (odi)) ?_
  refine mv rfl ?_
  refine sc (sgF rfl fun hG => sp_move (od rfl)) ?_
  refine sc (sgF rfl fun hG => sp_eql (odw rfl hG) (odi)) ?_
  refine sc (sgF rfl fun hG => sp_move (odw rfl hG)) ?_
  refine sc (sgwT rfl fun hG => sp_move (od rfl)) ?_
  refine sc (sgwT rfl fun hG => sp_move (od rfl)) ?_
  refine sc (sgwT rfl fun hG => sp_eqlStr (odw rfl hG) (odw rfl hG)) ?_
  refine sc (sgF rfl fun hG => sp_pickAnd (odw rfl hG) fun hg => odw rfl (and_mk hG hg)) ?_
  refine cg (sp_pickOr (od rfl) fun hg => odw rfl (not_t hg)) ?_
  refine cg (sp_assign (od rfl)) ?_
  refine sn fun a w hS => ?_
  refine et ?_
  refine wp_ret ?_
  cases h
  exact st_ret hS (run_results1 Tryz.results3 a w) (hS.get rfl)

end Go.Proofs.YtjlagmcdoobimaaGreatDoor
