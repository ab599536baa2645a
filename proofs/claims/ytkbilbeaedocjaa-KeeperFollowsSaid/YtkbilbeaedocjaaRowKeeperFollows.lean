/-
  What is proved: the statement KeeperFollows, for every input: the law returns true, and its arguments read behind the call as they read before.
  Conditions: none.
-/
import Derived.Test.YtkbilbeaedocjaaRows
import Derived.Test.YtkbilbeaedocjaaOpen
import Derived.Test.YtkbilbeaedocjaaWalkH
import Derived.Test.YtkbilbeaedocjaaLawKeeperFollows
set_option linter.unusedVariables false
namespace Go.Proofs.Ytkbilbeaedocjaa.keeperFollowsDone
open Go Go.ChangeShapes Go.WideShapes Go.ChangeAt Go.RowKit Go.Proofs.Ytkbilbeaedocjaa.Wh

theorem own : ownKnob Try.prog.godebug = none := by kernel_rfl
theorem laidOut : laidOutB Try.prog = true := by kernel_rfl
theorem keeps : ([24, 3].all fun t => Try.prog.readableRec t && Nat.blt t Try.prog.types.size) = true := by kernel_rfl
set_option maxRecDepth 100000 in
theorem lifted (os : Os) (started : os.Started) (H : Type) (enc : TypeId × Value → H) :
    ReturnsInHanded {} Try.checked os 8 .any (Rows.keeperFollowsSpec.pre6 enc Try.prog Try.f8 Rows.keeperFollowsRow.domain false) (Rows.keeperFollowsSpec.post enc Try.prog Try.f8 false true false false) := by
  refine returnsInHanded_of_change (C := Try.checked) own started (by kernel_rfl) Try.func8
    (ChangeSpec.witness6 (enc := enc) (C := Try.checked) false ⟨#[], #[.agg #[.int .i64 0, .slice none 0 0, .slice none 0 0], .int .i64 0], []⟩ 8 (by kernel_rfl) (by kernel_rfl) (by kernel_rfl) (by kernel_rfl)) ?_
  intro W base args ds gs before hval0 hW hcnd _
  have hval : ∀ (j : Nat) t v, Try.f8.params[j]? = some t → args[j]? = some v → Value.okWide Try.prog W .any base t v := hval0
  have hW' := hW
  obtain ⟨p, q, hA0, hV, rfl, hfz, hnd⟩ := hW
  have hA : DataW.TrodAll enc Try.prog W 0 (fun _ => true) true Try.f8.params.toList args.toList ds p := hA0
  rw [Try.params8] at hA hval
  have hB := hA
  obtain ⟨v0, vs0, d0, ds0, p0, q0, hargs0, rfl, rfl, h0, r0⟩ := trodAll_cons hA
  obtain ⟨v1, vs1, d1, ds1, p1, q1, hargs1, rfl, rfl, h1, r1⟩ := trodAll_cons r0
  subst hargs1
  obtain ⟨rfl, rfl, rfl⟩ := trodAll_nil r1
  obtain rfl : args = #[v0, v1] := by cases args; simp_all
  obtain ⟨rfl, rfl⟩ := trodVars_none hV
  obtain ⟨a0, k0⟩ := op24.top (hval 0 24 v0 rfl rfl) h0
  obtain ⟨a1, k1⟩ := op3.top (hval 1 3 v1 rfl rfl) h1
  clear hA0 hval0
  obtain ⟨fuel, hl⟩ := law_KeeperFollows a0 a1
  refine (f8_ok hl (fun _ => false) W [v0, v1] (fun b hb => by cases hb) ⟨k0, k1, trivial⟩).mono fun e W' ⟨v, he, bel, hv⟩ => ?_
  have hv : v = .bool true := hv
  subst he; subst hv
  exact ⟨_, rfl, _, _, _, [], _, [], hW', trodAll_mk1 (shut_bool Try.underlying4 _), trodAll_stays laidOut bel keeps hB, rfl, bel.kit.frame _, fun h => by cases h⟩
theorem over : Rows.keeperFollowsRow.holds Try.pinned (OpenSpec.ofChange Rows.keeperFollowsSpec) :=
  OpenClaim.holds_of_wide 8 Try.f8 rfl rfl rfl rfl rfl rfl rfl ⟨rfl, rfl, rfl, rfl, rfl⟩ rfl rfl rfl rfl rfl (by kernel_rfl) Try.func8 (by kernel_rfl)
    (of_decide_eq_true (by kernel_rfl)) (by unfold Func.isWrapper; first | (rw [if_pos (by decide +kernel)]; kernel_rfl) | (rw [if_neg (by decide +kernel)]; exact ⟨rfl, rfl⟩))
    (fun os started H enc _ => lifted os started H enc)
end Go.Proofs.Ytkbilbeaedocjaa.keeperFollowsDone
namespace Go.Proofs.Ytkbilbeaedocjaa
/-- The statement. -/
theorem provedKeeperFollows : Rows.KeeperFollowsSaid := keeperFollowsDone.over
#print axioms provedKeeperFollows
end Go.Proofs.Ytkbilbeaedocjaa
