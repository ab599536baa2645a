/-
  What is proved: the watch's Parse returns what its model tells (a list of pointers to the fields of a variable: walked by hand).
-/
import Derived.Test.YtnnhmgcigoiceaaGreatDoorWalkE
import Derived.Test.YtnnhmgcigoiceaaGreatDoorParseM
set_option linter.unusedVariables false
set_option maxRecDepth 100000
namespace Go.Proofs.YtnnhmgcigoiceaaGreatDoor
open Go Go.RowKit Go.Proofs.YtnnhmgcigoiceaaGreatDoor.Wh

section
variable {P : Program} {Γ : List (Nat × Pr)} {ty : TypeId}
theorem sp_nilP {x : Operand} {b off : Nat} (hx : Od Γ x (Pr.is (.pointer (some ⟨b, off, none⟩)))) : StepP P (.nilCheck x) ty Γ (Pr.is (.pointer (some ⟨b, off, none⟩))) :=
  step_pure fun c w a hc hm => by
    have hv : a.eval x = .pointer (some ⟨b, off, none⟩) := hx.get hm (by simp [Op.operands])
    exact ⟨.pointer (some ⟨b, off, none⟩), by simp [execOp, plain, hv], rfl⟩
theorem odUnraw {x : Operand} {v : Value} (hx : Od Γ x (isV (Raw.mk v))) : Od Γ x (Pr.is v) := od_mono hx fun _ _ h => h.1
end
theorem sl58r : SlP Tryz.prog 58 57 Raw := ⟨Tryz.underlying58, TyP.mk' Tryz.underlying57 rfl (by kernel_rfl)⟩
theorem ze57r : ZeroP Tryz.prog 57 Raw := ZeroP.mk' (by kernel_rfl)
theorem foT0 : FieldO Tryz.prog 23 0 0 := FieldO.mk' Tryz.underlying23 rfl (by kernel_rfl) rfl
theorem foT1 : FieldO Tryz.prog 23 1 1 := FieldO.mk' Tryz.underlying23 rfl (by kernel_rfl) rfl
theorem foT2 : FieldO Tryz.prog 23 2 2 := FieldO.mk' Tryz.underlying23 rfl (by kernel_rfl) rfl
theorem foT3 : FieldO Tryz.prog 23 3 3 := FieldO.mk' Tryz.underlying23 rfl (by kernel_rfl) rfl
theorem foT4 : FieldO Tryz.prog 23 4 4 := FieldO.mk' Tryz.underlying23 rfl (by kernel_rfl) rfl
theorem foT5 : FieldO Tryz.prog 23 5 5 := FieldO.mk' Tryz.underlying23 rfl (by kernel_rfl) rfl
/-- The places of a turn that lies in block b. -/
def plc (b : Nat) : List Raw := [⟨.pointer (some ⟨b, 0, none⟩)⟩, ⟨.pointer (some ⟨b, 1, none⟩)⟩, ⟨.pointer (some ⟨b, 2, none⟩)⟩, ⟨.pointer (some ⟨b, 3, none⟩)⟩, ⟨.pointer (some ⟨b, 4, none⟩)⟩, ⟨.pointer (some ⟨b, 5, none⟩)⟩]
theorem setP_out {t z : S_api_Turn} {i n : Int} (h : M.setP t i n = some z) (b : Nat) : idx (plc b) i = some ⟨.pointer (some ⟨b, i.toNat, none⟩)⟩ ∧ SetF i.toNat t n z := by
  unfold M.setP at h
  split at h
  · rename_i h0
    obtain ⟨k, rfl⟩ : ∃ k : Nat, i = (k : Int) := ⟨i.toNat, by omega⟩
    have hk : ((k : Int)).toNat = k := by omega
    rw [hk] at h ⊢
    match k, h with
    | 0, h => cases h; exact ⟨rfl, SetF.fst SetF.self⟩
    | 1, h => cases h; exact ⟨rfl, SetF.snd (SetF.fst SetF.self) rfl⟩
    | 2, h => cases h; exact ⟨rfl, SetF.snd (SetF.snd (SetF.fst SetF.self) rfl) rfl⟩
    | 3, h => cases h; exact ⟨rfl, SetF.snd (SetF.snd (SetF.snd (SetF.fst SetF.self) rfl) rfl) rfl⟩
    | 4, h => cases h; exact ⟨rfl, SetF.snd (SetF.snd (SetF.snd (SetF.snd (SetF.fst SetF.self) rfl) rfl) rfl) rfl⟩
    | 5, h => cases h; exact ⟨rfl, SetF.snd (SetF.snd (SetF.snd (SetF.snd (SetF.snd SetF.self rfl) rfl) rfl) rfl) rfl⟩
    | k + 6, h => cases h
  · cases h
theorem enSp : Enters Tryz.prog 30 := enters_of Tryz.func30 (by kernel_rfl) rfl
theorem enAt : Enters Tryz.prog 31 := enters_of Tryz.func31 (by kernel_rfl) rfl
theorem f7_ok {p0 : ByteArray} {r : S_api_Turn × Int} (h : M.f7 p0 = some r) : CallT Tryz.prog 7 [isV p0] (isTup [isV r.1, isV r.2]) := by
  unfold M.f7 at h
  refine callT_of Tryz.func7 rfl Tryz.ntmps7 rfl fun F0 w0 a hT hS => ?_
  refine ws ?_
  refine l_start ?_
  refine s_alloc zi23 hS rfl fun a w b_1 hS hM => ?_
  have hS : St _ F0 [Item.box (α := S_api_Turn) 23 b_1 ((0, 0, 0, 0, 0, 0) : S_api_Turn)] _ w0 _ _ := hS
  refine s_c hS (sg (sp_assign (odi))) rfl fun a w hS hM => ?_
  refine l_end ?_
  refine et ?_
  refine ws ?_
  refine l_start ?_
  refine s_alloc zi23 hS rfl fun a w b_2 hS hM => ?_
  have hS : St _ F0 [Item.box (α := S_api_Turn) 23 b_1 ((0, 0, 0, 0, 0, 0) : S_api_Turn), Item.box (α := S_api_Turn) 23 b_2 ((0, 0, 0, 0, 0, 0) : S_api_Turn)] _ w0 _ _ := hS
  refine l_end ?_
  refine et ?_
  refine ws ?_
  refine l_start ?_
  refine s_c hS (sg (sp_fieldAddrP foT0 (od rfl))) rfl fun a w hS hM => ?_
  refine s_c hS (sg (sp_fieldAddrP foT1 (od rfl))) rfl fun a w hS hM => ?_
  refine s_c hS (sg (sp_fieldAddrP foT2 (od rfl))) rfl fun a w hS hM => ?_
  refine s_c hS (sg (sp_fieldAddrP foT3 (od rfl))) rfl fun a w hS hM => ?_
  refine s_c hS (sg (sp_fieldAddrP foT4 (od rfl))) rfl fun a w hS hM => ?_
  refine s_c hS (sg (sp_fieldAddrP foT5 (od rfl))) rfl fun a w hS hM => ?_
  refine s_build [.tmp 12, .tmp 13, .tmp 14, .tmp 15, .tmp 16, .tmp 17] (plc b_2) sl58r ze57r rfl rfl rfl rfl hS ⟨odRaw (od rfl) rfl, odRaw (od rfl) rfl, odRaw (od rfl) rfl, odRaw (od rfl) rfl, odRaw (od rfl) rfl, odRaw (od rfl) rfl, trivial⟩ rfl fun a w v_p hS hM => ?_
  refine s_c hS (sg (sp_assign (φ := Pr.is v_p) (od rfl))) rfl fun a w hS hM => ?_
  have hS : St _ F0 [Item.box (α := S_api_Turn) 23 b_1 ((0, 0, 0, 0, 0, 0) : S_api_Turn), Item.box (α := S_api_Turn) 23 b_2 ((0, 0, 0, 0, 0, 0) : S_api_Turn), Item.sl (α := Raw) 57 v_p (plc b_2)] _ w0 _ _ := hS
  have hS := st_freeze (α := Raw) 2 5 hS rfl rfl
  have hS : St _ F0 [Item.box (α := S_api_Turn) 23 b_1 ((0, 0, 0, 0, 0, 0) : S_api_Turn), Item.box (α := S_api_Turn) 23 b_2 ((0, 0, 0, 0, 0, 0) : S_api_Turn)] _ w0 _ _ := hS
  refine l_end ?_
  refine et ?_
  refine ws ?_
  refine ws ?_
  obtain ⟨v_2, e_3, h⟩ := bind_some h
  refine st_reg mixed (by kernel_rfl) hS ?_
  refine mv rfl ?_
  refine cg (sp_call enSp (f30_ok e_3) ⟨od rfl, ods, trivial⟩) ?_
  refine cg (sp_len Tryz.underlying54 (od rfl)) ?_
  refine cg (sp_move (odi)) ?_
  refine sn fun a w hS => ?_
  refine et ?_
  refine wp_block ?_
  obtain ⟨o_8, e_9, hr_10⟩ := bind_some h
  refine c_loop (fun K a w => ∃ k i_5 s_7, K = k + 1 ∧ ForI _ _ _ o_8 k i_5 s_7 ∧ St 62 F0 [Item.box (α := S_api_Turn) 23 b_1 ((0, 0, 0, 0, 0, 0) : S_api_Turn), Item.box (α := S_api_Turn) 23 b_2 s_7] [(0, isV (α := ByteArray) p0), (2, Pr.ptr b_1), (4, Pr.ptr b_2), (5, isV (plc b_2)), (20, isV (α := List ByteArray) v_2), (21, isV (α := Int) (v_2.length : Int)), (22, isV (α := Int) i_5)] w0 a w) ?_ ?_ ⟨_, _, _, rfl, for_init e_9, hS.weak ⟨od rfl, od rfl, od rfl, od rfl, od rfl, od rfl, od rfl, trivial⟩⟩
  · rintro a w ⟨_, _, _, hk, _⟩; cases hk
  rintro K a w ⟨k_8, i_5, s_7, hk, hF_8, hS⟩
  obtain rfl := Nat.succ.inj hk
  refine ws ?_
  refine st_reg mixed (by kernel_rfl) hS ?_
  refine cg (sp_lss (od rfl) (od rfl)) ?_
  refine sn fun a w hS => ?_
  refine et ?_
  refine ws ?_
  refine st_cond hS rfl (fun hb => ?_) (fun hb => ?_)
  · refine wp_skip ?_
    refine et ?_
    obtain ⟨k_8, o, rfl, h, hN_8, hL_8, hw_8⟩ := for_more hF_8 hb
    refine ws ?_
    refine wp_block ?_
    refine ws ?_
    obtain ⟨v_11, e_12, h⟩ := bind_some h
    refine st_reg mixed (by kernel_rfl) hS ?_
    refine mv rfl ?_
    refine cg (sp_indexAddr sl54 (od rfl) (od rfl) e_12) ?_
    refine cg (sp_load ty9 (od rfl)) ?_
    refine cg (sp_assign (od rfl)) ?_
    refine cg (sp_assign (od rfl)) ?_
    refine sn fun a w hS => ?_
    refine et ?_
    refine ws ?_
    obtain ⟨v_13, e_14, h⟩ := bind_some h
    refine l_start ?_
    refine s_c hS (sg (sp_move (od rfl))) rfl fun a w hS hM => ?_
    refine s_callT enAt (f31_ok e_14) hT hS ⟨od rfl, trivial⟩ rfl fun a w hS hM => ?_
    refine s_c hS (sg (sp_move (od rfl))) rfl fun a w hS hM => ?_
    refine s_c hS (sg (sp_extract (od rfl) rfl)) rfl fun a w hS hM => ?_
    refine s_c hS (sg (sp_extract (od rfl) rfl)) rfl fun a w hS hM => ?_
    refine s_c hS (sg (sp_assign (od rfl))) rfl fun a w hS hM => ?_
    refine s_c hS (sg (sp_assign (od rfl))) rfl fun a w hS hM => ?_
    refine l_end ?_
    refine et ?_
    refine ws ?_
    refine ws ?_
    refine st_reg mixed (by kernel_rfl) hS ?_
    refine mv rfl ?_
    refine cg (sp_neqErr Tryz.underlying61 (od rfl)) ?_
    refine mv rfl ?_
    refine sc (sgF rfl fun hG => sp_move (od rfl)) ?_
    refine sc (sgF rfl fun hG => sp_move (od rfl)) ?_
    refine sc (sgF rfl fun hG => sp_len (xs := plc b_2) Tryz.underlying58 (odw rfl hG)) ?_
    refine sc (sgF rfl fun hG => sp_geq (n := 6) (odw rfl hG) (odw rfl hG)) ?_
    refine cg (sp_pickOr (od rfl) fun hg => odw rfl (not_t hg)) ?_
    refine sn fun a w hS => ?_
    refine et ?_
    refine st_cond hS rfl (fun hb => ?_) (fun hb => ?_)
    · have h := ite_t hb h
      refine ws ?_
      have hS := st_drop 1 hS
      refine l_start ?_
      refine s_c hS (sg (bd23_ )) rfl fun a w hS hM => ?_
      refine s_storeB (k := 0) (Δ := [(2, Pr.ptr b_1), (40, isV (α := S_api_Turn) ((0, 0, 0, 0, 0, 0) : S_api_Turn))]) ty23 hS rfl ⟨od rfl, od rfl, trivial⟩ ⟨fun _ _ _ _ h => h, fun _ _ _ _ h => h, trivial⟩ rfl (od rfl) fun w hS hM => ?_
      have hS : St _ F0 [Item.box (α := S_api_Turn) 23 b_1 ((0, 0, 0, 0, 0, 0) : S_api_Turn)] _ w0 _ _ := hS
      refine s_c hS (sg (sp_assign (odi))) rfl fun a w hS hM => ?_
      refine l_end ?_
      refine et ?_
      refine wp_ret ?_
      refine exit_thenR ?_
      refine exit_blockR ?_
      refine exit_thenR ?_
      have hS := st_freezeB 0 2 hS rfl rfl
      cases h
      obtain rfl := hL_8 _ rfl
      have h := (elim_leave hr_10)
      refine exit_thenR ?_
      refine exit_blockR ?_
      refine exit_thenR ?_
      cases h
      obtain ⟨v, hr, hv⟩ := run_resC2 Tryz.results7 ty23 (hS.get rfl)
      exact st_ret hS hr ⟨_, rfl, hv, hS.get rfl, trivial⟩
    have h := ite_f hb h
    refine wp_skip ?_
    refine et ?_
    obtain ⟨z_17, e_18, h⟩ := bind_some h
    obtain ⟨e_19, e_20⟩ := setP_out e_18 b_2
    refine l_start ?_
    refine s_c hS (sg (sp_move (od rfl))) rfl fun a w hS hM => ?_
    refine s_c hS (sg (sp_move (od rfl))) rfl fun a w hS hM => ?_
    refine s_c hS (sg (sp_indexAddr sl58r (od rfl) (od rfl) e_19)) rfl fun a w hS hM => ?_
    refine s_c hS (sg (sp_load sl58r.elem (od rfl))) rfl fun a w hS hM => ?_
    refine s_c hS (sg (sp_move (od rfl))) rfl fun a w hS hM => ?_
    refine s_c hS (sg (sp_nilP (odUnraw (od rfl)))) rfl fun a w hS hM => ?_
    refine s_storeP (k := 1) (off := i_5.toNat) (Δ := [(0, isV (α := ByteArray) p0), (2, Pr.ptr b_1), (4, Pr.ptr b_2), (5, isV (plc b_2)), (20, isV (α := List ByteArray) v_2), (21, isV (α := Int) (v_2.length : Int)), (22, isV (α := Int) i_5), (45, isV (α := Int) v_13.1), (46, Pr.is (.pointer (some ⟨b_2, i_5.toNat, none⟩)))]) ty3 hS rfl ⟨od rfl, od rfl, od rfl, od rfl, od rfl, od rfl, od rfl, od rfl, od rfl, trivial⟩ ⟨fun _ _ _ _ h => h, fun _ _ _ _ h => h, fun _ _ _ _ h => h, fun _ _ _ _ h => h, fun _ _ _ _ h => h, fun _ _ _ _ h => h, fun _ _ _ _ h => h, fun _ _ _ _ h => h, fun _ _ _ _ h => h, trivial⟩ (od rfl) (od rfl) e_20 fun w hS hM => ?_
    have hS : St _ F0 [Item.box (α := S_api_Turn) 23 b_1 ((0, 0, 0, 0, 0, 0) : S_api_Turn), Item.box (α := S_api_Turn) 23 b_2 z_17] _ w0 _ _ := hS
    refine l_end ?_
    refine exit_block ?_
    refine et ?_
    refine st_reg mixed (by kernel_rfl) hS ?_
    refine cg (sp_add (od rfl) (odi)) ?_
    refine mv rfl ?_
    refine sn fun a w hS => ?_
    cases h
    exact ⟨k_8, _, _, rfl, hN_8 _ rfl, hS.weak ⟨od rfl, od rfl, od rfl, od rfl, od rfl, od rfl, od (congrArg (fun z => some (isV (α := Int) z)) hw_8), trivial⟩⟩
  refine wp_exit ?_
  obtain rfl := for_done hF_8 hb
  have h := elim_again hr_10
  refine exit_thenE ?_
  refine exit_thenE ?_
  refine exit_here ?_
  refine et ?_
  refine ws ?_
  refine ws ?_
  obtain ⟨v_27, e_28, h⟩ := bind_some h
  have hS := st_freezeB 1 4 hS rfl rfl
  have hS : St _ F0 [Item.box (α := S_api_Turn) 23 b_1 ((0, 0, 0, 0, 0, 0) : S_api_Turn)] _ w0 _ _ := hS
  refine l_start ?_
  refine s_c hS (sg (sp_load ty23 (od rfl))) rfl fun a w hS hM => ?_
  refine s_callT en5 (f5_ok e_28) hT hS ⟨od rfl, trivial⟩ rfl fun a w hS hM => ?_
  refine s_c hS (sg (sp_move (od rfl))) rfl fun a w hS hM => ?_
  refine s_c hS (sg (sp_extract (od rfl) rfl)) rfl fun a w hS hM => ?_
  refine s_c hS (sg (sp_extract (od rfl) rfl)) rfl fun a w hS hM => ?_
  refine s_c hS (sg (sp_assign (od rfl))) rfl fun a w hS hM => ?_
  refine s_c hS (sg (sp_assign (od rfl))) rfl fun a w hS hM => ?_
  refine l_end ?_
  refine et ?_
  refine ws ?_
  refine st_reg mixed (by kernel_rfl) hS ?_
  refine mv rfl ?_
  refine cg (sp_neq (od rfl) (odi)) ?_
  refine mv rfl ?_
  refine sc (sgF rfl fun hG => sp_move (od rfl)) ?_
  refine sc (sgF rfl fun hG => sp_move (od rfl)) ?_
  refine sc (sgF rfl fun hG => sp_neqStr (odw rfl hG) (odw rfl hG)) ?_
  refine cg (sp_pickOr (od rfl) fun hg => odw rfl (not_t hg)) ?_
  refine sn fun a w hS => ?_
  refine et ?_
  refine st_cond hS rfl (fun hb => ?_) (fun hb => ?_)
  · have h := ite_t hb h
    refine ws ?_
    refine l_start ?_
    refine s_c hS (sg (bd23_ )) rfl fun a w hS hM => ?_
    refine s_storeB (k := 0) (Δ := [(2, Pr.ptr b_1), (60, isV (α := S_api_Turn) ((0, 0, 0, 0, 0, 0) : S_api_Turn))]) ty23 hS rfl ⟨od rfl, od rfl, trivial⟩ ⟨fun _ _ _ _ h => h, fun _ _ _ _ h => h, trivial⟩ rfl (od rfl) fun w hS hM => ?_
    have hS : St _ F0 [Item.box (α := S_api_Turn) 23 b_1 ((0, 0, 0, 0, 0, 0) : S_api_Turn)] _ w0 _ _ := hS
    refine s_c hS (sg (sp_assign (odi))) rfl fun a w hS hM => ?_
    refine l_end ?_
    refine et ?_
    refine wp_ret ?_
    refine exit_thenR ?_
    have hS := st_freezeB 0 2 hS rfl rfl
    cases h
    obtain ⟨v, hr, hv⟩ := run_resC2 Tryz.results7 ty23 (hS.get rfl)
    exact st_ret hS hr ⟨_, rfl, hv, hS.get rfl, trivial⟩
  have h := ite_f hb h
  refine wp_skip ?_
  refine et ?_
  refine ws ?_
  refine l_start ?_
  refine s_c hS (sg (sp_load ty23 (od rfl))) rfl fun a w hS hM => ?_
  refine s_storeB (k := 0) (Δ := [(2, Pr.ptr b_1), (61, isV (α := S_api_Turn) s_7)]) ty23 hS rfl ⟨od rfl, od rfl, trivial⟩ ⟨fun _ _ _ _ h => h, fun _ _ _ _ h => h, trivial⟩ rfl (od rfl) fun w hS hM => ?_
  have hS : St _ F0 [Item.box (α := S_api_Turn) 23 b_1 s_7] _ w0 _ _ := hS
  refine s_c hS (sg (sp_assign (odi))) rfl fun a w hS hM => ?_
  refine l_end ?_
  refine et ?_
  refine wp_ret ?_
  have hS := st_freezeB 0 2 hS rfl rfl
  cases h
  obtain ⟨v, hr, hv⟩ := run_resC2 Tryz.results7 ty23 (hS.get rfl)
  exact st_ret hS hr ⟨_, rfl, hv, hS.get rfl, trivial⟩
end Go.Proofs.YtnnhmgcigoiceaaGreatDoor
