/-
  What is proved: the statement WatchTexts, for every input: the law returns true, and its arguments read behind the call as they read before.
  Conditions: none.
-/
import Derived.Test.YtnnhmgcigoiceaaGreatDoorRows
import Derived.Test.YtnnhmgcigoiceaaGreatDoorOpen
import Derived.Test.YtnnhmgcigoiceaaGreatDoorWalkF
import Derived.Test.YtnnhmgcigoiceaaGreatDoorLawWatchTexts
import Derived.Test.YtnnhmgcigoiceaaGreatDoorTie
import Derived.Test.YtnnhmgcigoiceaaGreatDoorCards
import Derived.ProofKit
import Derived.LaidMore
import Derived.Lay
import Derived.LaidOnce
import Derived.OpenShut
import Derived.Stop.Joined
import Derived.SevenTiedAt
import Derived.Lib.LaidTab
import Derived.Stop.LaidErr
set_option linter.unusedVariables false
namespace Go.Proofs.YtnnhmgcigoiceaaGreatDoor.watchTextsDone
open Go Go.ChangeShapes Go.WideShapes Go.ChangeAt Go.RowKit Go.Proofs.YtnnhmgcigoiceaaGreatDoor.Wh

theorem own : ownKnob Tryz.prog.godebug = none := by kernel_rfl
theorem laidOut : laidOutB Tryz.prog = true := by kernel_rfl
theorem keeps : ([23, 9].all fun t => Tryz.prog.readableRec t && Nat.blt t Tryz.prog.types.size) = true := by kernel_rfl
theorem tab_one {W : World} (h : laidMetH Tryz.prog Rows.watchTextsRow.laid W) : Lib.TabIs Tryz.prog W "internal/strconv.uint64pow10" .u64 Lib.pow10Tab := by
  rw [MakeChecks.laidMetH_plain _ _ _ (by kernel_rfl)] at h
  have h2 := (laidMet.tail (laidMet.tail h))
  have e : (Rows.laid_internal_strconv_uint64pow10 : DataW Unit) = Lib.tabData .u64 Lib.pow10Tab := by kernel_rfl
  rw [e] at h2
  exact Lib.tabIs_of_head (g := 2) (t := 159) (e := 135) (n := 20) (by kernel_rfl) (by kernel_rfl) (by kernel_rfl) (by kernel_rfl) (by kernel_rfl) (by kernel_rfl) h2
theorem cells_te : Tryz.prog.cellsOf 166 = 1 := by kernel_rfl
theorem cells_ts : Tryz.prog.cellsOf 9 = 1 := by kernel_rfl
theorem star : "*" ++ "errors.errorString" = "*errors.errorString" := by decide
theorem row_tp (u : TypeId) (h : Tryz.prog.typeName? 3 u = some "*errors.errorString") : u = 164 :=
  typeName_ptr_named (nm := "errors.errorString") (by rw [star]; kernel_rfl) (by kernel_rfl) (by decide) u (by rw [star]; exact h)
theorem tab_here {W : World} (h : laidMetH Tryz.prog Rows.watchTextsRow.laid W) : TabT Tryz.prog W := by
  have h1 := tab_one h
  rw [MakeChecks.laidMetH_plain _ _ _ (by kernel_rfl)] at h
  obtain ⟨a0, _, hv0, _, _, _⟩ := laid_sentinel (laidMet.tail (laidMet.tail (laidMet.tail (laidMet.tail (laidMet.tail h))))) (show Tryz.prog.globalNamed "strconv.ErrSyntax" = some 0 by kernel_rfl) (show (Tryz.prog.globals[0]?).map (·.type) = some 61 by kernel_rfl) Tryz.underlying61 row_tp Tryz.underlying164 Tryz.underlying166 rfl rfl Tryz.underlying9 cells_te cells_ts
  have hc0 : W.cell? ⟨0, 0, none⟩ = some (.iface 164 (.pointer (some a0))) := by simpa using World.var?_cell (show Tryz.prog.globalNamed "strconv.ErrSyntax" = some 0 by kernel_rfl) hv0 0
  obtain ⟨a1, _, hv1, _, _, _⟩ := laid_sentinel (laidMet.tail (laidMet.tail (laidMet.tail (laidMet.tail h)))) (show Tryz.prog.globalNamed "strconv.ErrRange" = some 1 by kernel_rfl) (show (Tryz.prog.globals[1]?).map (·.type) = some 61 by kernel_rfl) Tryz.underlying61 row_tp Tryz.underlying164 Tryz.underlying166 rfl rfl Tryz.underlying9 cells_te cells_ts
  have hc1 : W.cell? ⟨1, 0, none⟩ = some (.iface 164 (.pointer (some a1))) := by simpa using World.var?_cell (show Tryz.prog.globalNamed "strconv.ErrRange" = some 1 by kernel_rfl) hv1 0
  exact ⟨h1, ⟨_, _, hc0⟩, ⟨_, _, hc1⟩⟩
set_option maxRecDepth 100000 in
theorem lifted (os : Os) (started : os.Started) (H : Type) (enc : TypeId × Value → H) :
    ReturnsInHanded {} Tryz.checked os 3 .any (fun w args => (Rows.watchTextsSpec.pre enc Tryz.prog Tryz.f3 [] false w args ∧ laidMetH Tryz.prog Rows.watchTextsRow.laid w) ∧ sizedMet enc Tryz.prog Tryz.f3 (OpenSpec.ofChange Rows.watchTextsSpec) false w args) (Rows.watchTextsSpec.post enc Tryz.prog Tryz.f3 false true false false) := by
  refine returnsInHanded_of_change_and (C := Tryz.checked) (X := fun w _ => laidMetH Tryz.prog Rows.watchTextsRow.laid w) (fun _ _ _ hh h => h.of_heap hh) own started (by kernel_rfl) Tryz.func3
    (ChangeSpec.witness_shaped (enc := enc) (C := Tryz.checked) (os := os) (X := fun w _ => laidMetH Tryz.prog Rows.watchTextsRow.laid w) false (World.laidAll Tryz.prog os Rows.watchTextsRow.laid) #[.agg #[.int .i64 0, .int .i64 0, .int .i64 0, .int .i64 0, .int .i64 0, .int .i64 0], .string ByteArray.empty] 8 (World.laidAll_os _ _ _) (World.shaped_of_ZipB (by kernel_rfl) (by kernel_rfl)) (by kernel_rfl) (by kernel_rfl) (by kernel_rfl) (by rw [MakeChecks.laidMetH_plain _ _ _ (by kernel_rfl)]; exact laidMet_laidAll _ (by kernel_rfl) (by kernel_rfl))) ?_
  intro W base args ds gs before hval0 hW _ _ hL _
  have hval : ∀ (j : Nat) t v, Tryz.f3.params[j]? = some t → args[j]? = some v → Value.okWide Tryz.prog W .any base t v := hval0
  have hW' := hW
  obtain ⟨p, q, hA0, hV, rfl, hfz, hnd⟩ := hW
  have hA : DataW.TrodAll enc Tryz.prog W 0 (fun _ => true) true Tryz.f3.params.toList args.toList ds p := hA0
  rw [Tryz.params3] at hA hval
  have hB := hA
  obtain ⟨v0, vs0, d0, ds0, p0, q0, hargs0, rfl, rfl, h0, r0⟩ := trodAll_cons hA
  obtain ⟨v1, vs1, d1, ds1, p1, q1, hargs1, rfl, rfl, h1, r1⟩ := trodAll_cons r0
  subst hargs1
  obtain ⟨rfl, rfl, rfl⟩ := trodAll_nil r1
  obtain rfl : args = #[v0, v1] := by cases args; simp_all
  obtain ⟨rfl, rfl⟩ := trodVars_none hV
  obtain ⟨a0, k0⟩ := op23.top (hval 0 23 v0 rfl rfl) h0
  obtain ⟨a1, k1⟩ := op9.top (hval 1 9 v1 rfl rfl) h1
  clear hA0 hval0
  obtain ⟨fuel, hl⟩ := law_WatchTexts a0 a1
  refine (f3_ok hl (fun _ => false) W [v0, v1] (tab_here hL) (fun b hb => by cases hb) ⟨k0, k1, trivial⟩).mono fun e W' ⟨v, he, bel, hv⟩ => ?_
  have hv : v = .bool true := hv
  subst he; subst hv
  exact ⟨_, rfl, _, _, _, [], _, [], hW', trodAll_mk1 (shut_bool Tryz.underlying4 _), trodAll_stays laidOut bel keeps hB, rfl, bel.kit.frame _, fun h => by cases h⟩
theorem over : Rows.watchTextsRow.holds Tryz.pinned (OpenSpec.ofChange Rows.watchTextsSpec) :=
  OpenClaim.holds_of_wide 3 Tryz.f3 rfl rfl rfl rfl rfl rfl rfl ⟨rfl, rfl, rfl, rfl, rfl⟩ rfl rfl rfl rfl rfl (by kernel_rfl) Tryz.func3 (by kernel_rfl)
    (of_decide_eq_true (by kernel_rfl)) (by unfold Func.isWrapper; first | (rw [if_pos (by decide +kernel)]; kernel_rfl) | (rw [if_neg (by decide +kernel)]; exact ⟨rfl, rfl⟩))
    (fun os started H enc _ => lifted os started H enc)
theorem card : Rows.WatchTextsCardSaid :=
  Claim7.holds_tied_plain_at .later [] [.data, .data, .data, .data, .sentinel, .sentinel, .pinned] true (true, "e3a993e81c6d34a3e96ad6d18d37031ae3ce1016f50dba35e4bec338690c848a") true
    over (fun _ h => by cases h) (by kernel_rfl) (fun _ h => by cases h) watchTexts_row_tie rfl ⟨rfl, rfl⟩ (by kernel_rfl) rfl
    (fun f fn hf hfn => by
      obtain rfl : f = 3 := Option.some.inj ((show Tryz.prog.funcNamed "waterhour/waterhourlaw07.WatchTexts" = some 3 by kernel_rfl).symm.trans hf) |>.symm
      obtain rfl : fn = Tryz.f3 := (Option.some.inj (Tryz.func3.symm.trans hfn)).symm
      exact ⟨by kernel_rfl, fun j t ht => by
        rw [Tryz.params3] at ht
        have hm : t ∈ [23, 9] := by simpa using Array.mem_of_getElem? ht
        have hall : ([23, 9].all fun u => !Tryz.prog.wantsStandIn u) = true := by kernel_rfl
        exact (show Tryz.prog.wantsStandIn t = false by simpa using List.all_eq_true.1 hall t hm)⟩)
    (by kernel_rfl)
end Go.Proofs.YtnnhmgcigoiceaaGreatDoor.watchTextsDone
namespace Go.Proofs.YtnnhmgcigoiceaaGreatDoor
/-- The statement. -/
theorem provedWatchTexts : Rows.WatchTextsCardSaid := watchTextsDone.card
#print axioms provedWatchTexts
end Go.Proofs.YtnnhmgcigoiceaaGreatDoor
