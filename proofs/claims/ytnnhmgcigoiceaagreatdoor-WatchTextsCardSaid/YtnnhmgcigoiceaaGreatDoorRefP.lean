/-
  What is proved: the specification's Print returns what its model tells.
-/
import Derived.Test.YtnnhmgcigoiceaaGreatDoorWalkE
import Derived.Test.YtnnhmgcigoiceaaGreatDoorRefPM
import Derived.Test.YtnnhmgcigoiceaaGreatDoorBaseT
set_option linter.unusedVariables false
set_option maxRecDepth 100000
namespace Go.Proofs.YtnnhmgcigoiceaaGreatDoor
open Go Go.RowKit Go.Proofs.YtnnhmgcigoiceaaGreatDoor.Wh

theorem enRt : Enters Tryz.prog 29 := enters_of Tryz.func29 (by kernel_rfl) rfl
theorem f6_ok {p0 : S_api_Turn} {r : ByteArray × Int} (h : M.f6 p0 = some r) : CallT Tryz.prog 6 [isV p0] (isTup [isV r.1, isV r.2]) := by
  unfold M.f6 at h
  refine callT_of Tryz.func6 rfl Tryz.ntmps6 rfl fun F0 w0 a hT hS => ?_
  refine ws ?_
  refine st_reg mixed (by kernel_rfl) hS ?_
  refine cg (sp_box (od rfl)) ?_
  refine cg (sp_assign (φ := isV ((⟨#[]⟩ : ByteArray) : ByteArray)) (ods)) ?_
  refine cg (sp_assign (odi)) ?_
  refine sn fun a w hS => ?_
  refine et ?_
  refine ws ?_
  refine ws ?_
  obtain ⟨v_1, e_2, h⟩ := bind_some h
  refine st_reg mixed (by kernel_rfl) hS ?_
  refine cg (sp_load ty23 (od rfl)) ?_
  refine cg (sp_call enRt (f29_ok e_2) ⟨od rfl, trivial⟩) ?_
  refine cg (sp_not (od rfl)) ?_
  refine sn fun a w hS => ?_
  refine et ?_
  refine st_cond hS rfl (fun hb => ?_) (fun hb => ?_)
  · have h := ite_t hb h
    refine ws ?_
    refine st_reg mixed (by kernel_rfl) hS ?_
    refine cg (sp_assign (φ := isV ((⟨#[]⟩ : ByteArray) : ByteArray)) (ods)) ?_
    refine cg (sp_assign (odi)) ?_
    refine sn fun a w hS => ?_
    refine et ?_
    refine wp_ret ?_
    refine exit_thenR ?_
    cases h
    exact st_ret hS (run_results2 Tryz.results6 a w) (⟨_, rfl, hS.get rfl, hS.get rfl, trivial⟩)
  have h := ite_f hb h
  refine wp_skip ?_
  refine et ?_
  refine ws ?_
  obtain ⟨v_3, e_4, h⟩ := bind_some h
  obtain ⟨v_5, e_6, h⟩ := bind_some h
  obtain ⟨v_7, e_8, h⟩ := bind_some h
  obtain ⟨v_9, e_10, h⟩ := bind_some h
  obtain ⟨v_11, e_12, h⟩ := bind_some h
  obtain ⟨v_13, e_14, h⟩ := bind_some h
  obtain ⟨v_15, e_16, h⟩ := bind_some h
  obtain ⟨v_17, e_18, h⟩ := bind_some h
  obtain ⟨v_19, e_20, h⟩ := bind_some h
  obtain ⟨v_21, e_22, h⟩ := bind_some h
  obtain ⟨v_23, e_24, h⟩ := bind_some h
  obtain ⟨v_25, e_26, h⟩ := bind_some h
  obtain ⟨v_27, e_28, h⟩ := bind_some h
  obtain ⟨v_29, e_30, h⟩ := bind_some h
  obtain ⟨v_31, e_32, h⟩ := bind_some h
  obtain ⟨v_33, e_34, h⟩ := bind_some h
  refine st_regT hT mixed (by kernel_rfl) hS ?_
  refine ctg (sp_fieldAddr fd23_0 (od rfl)) ?_
  refine ctg (sp_load ty3 (od rfl)) ?_
  refine ctc en27 (f27_ok e_4) ⟨od rfl, trivial⟩ ?_
  refine ctg (sp_cat (od rfl) (ods) e_6) ?_
  refine ctg (sp_fieldAddr fd23_1 (od rfl)) ?_
  refine ctg (sp_load ty3 (od rfl)) ?_
  refine ctc en27 (f27_ok e_8) ⟨od rfl, trivial⟩ ?_
  refine ctg (sp_cat (od rfl) (od rfl) e_10) ?_
  refine ctg (sp_cat (od rfl) (ods) e_12) ?_
  refine ctg (sp_fieldAddr fd23_2 (od rfl)) ?_
  refine ctg (sp_load ty3 (od rfl)) ?_
  refine ctc en27 (f27_ok e_14) ⟨od rfl, trivial⟩ ?_
  refine ctg (sp_cat (od rfl) (od rfl) e_16) ?_
  refine ctg (sp_cat (od rfl) (ods) e_18) ?_
  refine ctg (sp_fieldAddr fd23_3 (od rfl)) ?_
  refine ctg (sp_load ty3 (od rfl)) ?_
  refine ctc en27 (f27_ok e_20) ⟨od rfl, trivial⟩ ?_
  refine ctg (sp_cat (od rfl) (od rfl) e_22) ?_
  refine ctg (sp_cat (od rfl) (ods) e_24) ?_
  refine ctg (sp_fieldAddr fd23_4 (od rfl)) ?_
  refine ctg (sp_load ty3 (od rfl)) ?_
  refine ctc en27 (f27_ok e_26) ⟨od rfl, trivial⟩ ?_
  refine ctg (sp_cat (od rfl) (od rfl) e_28) ?_
  refine ctg (sp_cat (od rfl) (ods) e_30) ?_
  refine ctg (sp_fieldAddr fd23_5 (od rfl)) ?_
  refine ctg (sp_load ty3 (od rfl)) ?_
  refine ctc en27 (f27_ok e_32) ⟨od rfl, trivial⟩ ?_
  refine ctg (sp_cat (od rfl) (od rfl) e_34) ?_
  refine ctg (sp_assign (od rfl)) ?_
  refine ctg (sp_assign (odi)) ?_
  refine stn fun a w hS => ?_
  refine et ?_
  refine wp_ret ?_
  cases h
  exact st_ret hS (run_results2 Tryz.results6 a w) (⟨_, rfl, hS.get rfl, hS.get rfl, trivial⟩)
end Go.Proofs.YtnnhmgcigoiceaaGreatDoor
