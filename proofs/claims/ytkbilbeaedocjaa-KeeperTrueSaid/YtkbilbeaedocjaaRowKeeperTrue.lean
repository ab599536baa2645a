/-
  What is proved: the statement KeeperTrue, for every input: the law returns true, and its arguments read behind the call as they read before.
  Conditions: none.
-/
import Derived.Test.YtkbilbeaedocjaaRows
import Derived.Test.YtkbilbeaedocjaaOpen
import Derived.Test.YtkbilbeaedocjaaWalkM
import Derived.Test.YtkbilbeaedocjaaLawKeeperTrue
set_option linter.unusedVariables false
namespace Go.Proofs.Ytkbilbeaedocjaa.keeperTrueDone
open Go Go.ChangeShapes Go.WideShapes Go.ChangeAt Go.RowKit Go.Proofs.Ytkbilbeaedocjaa.Wh

theorem own : ownKnob Try.prog.godebug = none := by kernel_rfl
theorem laidOut : laidOutB Try.prog = true := by kernel_rfl
theorem keeps : ([24, 27, 27, 27, 3, 3, 27, 3].all fun t => Try.prog.readableRec t && Nat.blt t Try.prog.types.size) = true := by kernel_rfl
set_option maxRecDepth 100000 in
theorem lifted (os : Os) (started : os.Started) (H : Type) (enc : TypeId × Value → H) :
    ReturnsInHanded {} Try.checked os 15 .any (Rows.keeperTrueSpec.pre6 enc Try.prog Try.f15 Rows.keeperTrueRow.domain false) (Rows.keeperTrueSpec.post enc Try.prog Try.f15 false true false false) := by
  refine returnsInHanded_of_change (C := Try.checked) own started (by kernel_rfl) Try.func15
    (ChangeSpec.witness6 (enc := enc) (C := Try.checked) false ⟨#[], #[.agg #[.int .i64 0, .slice none 0 0, .slice none 0 0], .slice none 0 0, .slice none 0 0, .slice none 0 0, .int .i64 0, .int .i64 0, .slice none 0 0, .int .i64 0], []⟩ 8 (by kernel_rfl) (by kernel_rfl) (by kernel_rfl) (by kernel_rfl)) ?_
  intro W base args ds gs before hval0 hW hcnd _
  have hval : ∀ (j : Nat) t v, Try.f15.params[j]? = some t → args[j]? = some v → Value.okWide Try.prog W .any base t v := hval0
  have hW' := hW
  obtain ⟨p, q, hA0, hV, rfl, hfz, hnd⟩ := hW
  have hA : DataW.TrodAll enc Try.prog W 0 (fun _ => true) true Try.f15.params.toList args.toList ds p := hA0
  rw [Try.params15] at hA hval
  have hB := hA
  obtain ⟨v0, vs0, d0, ds0, p0, q0, hargs0, rfl, rfl, h0, r0⟩ := trodAll_cons hA
  obtain ⟨v1, vs1, d1, ds1, p1, q1, hargs1, rfl, rfl, h1, r1⟩ := trodAll_cons r0
  subst hargs1
  obtain ⟨v2, vs2, d2, ds2, p2, q2, hargs2, rfl, rfl, h2, r2⟩ := trodAll_cons r1
  subst hargs2
  obtain ⟨v3, vs3, d3, ds3, p3, q3, hargs3, rfl, rfl, h3, r3⟩ := trodAll_cons r2
  subst hargs3
  obtain ⟨v4, vs4, d4, ds4, p4, q4, hargs4, rfl, rfl, h4, r4⟩ := trodAll_cons r3
  subst hargs4
  obtain ⟨v5, vs5, d5, ds5, p5, q5, hargs5, rfl, rfl, h5, r5⟩ := trodAll_cons r4
  subst hargs5
  obtain ⟨v6, vs6, d6, ds6, p6, q6, hargs6, rfl, rfl, h6, r6⟩ := trodAll_cons r5
  subst hargs6
  obtain ⟨v7, vs7, d7, ds7, p7, q7, hargs7, rfl, rfl, h7, r7⟩ := trodAll_cons r6
  subst hargs7
  obtain ⟨rfl, rfl, rfl⟩ := trodAll_nil r7
  obtain rfl : args = #[v0, v1, v2, v3, v4, v5, v6, v7] := by cases args; simp_all
  obtain ⟨rfl, rfl⟩ := trodVars_none hV
  obtain ⟨a0, k0⟩ := op24.top (hval 0 24 v0 rfl rfl) h0
  obtain ⟨a1, k1⟩ := op27.top (hval 1 27 v1 rfl rfl) h1
  obtain ⟨a2, k2⟩ := op27.top (hval 2 27 v2 rfl rfl) h2
  obtain ⟨a3, k3⟩ := op27.top (hval 3 27 v3 rfl rfl) h3
  obtain ⟨a4, k4⟩ := op3.top (hval 4 3 v4 rfl rfl) h4
  obtain ⟨a5, k5⟩ := op3.top (hval 5 3 v5 rfl rfl) h5
  obtain ⟨a6, k6⟩ := op27.top (hval 6 27 v6 rfl rfl) h6
  obtain ⟨a7, k7⟩ := op3.top (hval 7 3 v7 rfl rfl) h7
  clear hA0 hval0
  obtain ⟨fuel, hl⟩ := law_KeeperTrue a0 a1 a2 a3 a4 a5 a6 a7
  refine (f15_ok hl (fun _ => false) W [v0, v1, v2, v3, v4, v5, v6, v7] (fun b hb => by cases hb) ⟨k0, k1, k2, k3, k4, k5, k6, k7, trivial⟩).mono fun e W' ⟨v, he, bel, hv⟩ => ?_
  have hv : v = .bool true := hv
  subst he; subst hv
  exact ⟨_, rfl, _, _, _, [], _, [], hW', trodAll_mk1 (shut_bool Try.underlying4 _), trodAll_stays laidOut bel keeps hB, rfl, bel.kit.frame _, fun h => by cases h⟩
theorem over : Rows.keeperTrueRow.holds Try.pinned (OpenSpec.ofChange Rows.keeperTrueSpec) :=
  OpenClaim.holds_of_wide 15 Try.f15 rfl rfl rfl rfl rfl rfl rfl ⟨rfl, rfl, rfl, rfl, rfl⟩ rfl rfl rfl rfl rfl (by kernel_rfl) Try.func15 (by kernel_rfl)
    (of_decide_eq_true (by kernel_rfl)) (by unfold Func.isWrapper; first | (rw [if_pos (by decide +kernel)]; kernel_rfl) | (rw [if_neg (by decide +kernel)]; exact ⟨rfl, rfl⟩))
    (fun os started H enc _ => lifted os started H enc)
end Go.Proofs.Ytkbilbeaedocjaa.keeperTrueDone
namespace Go.Proofs.Ytkbilbeaedocjaa
/-- The statement. -/
theorem provedKeeperTrue : Rows.KeeperTrueSaid := keeperTrueDone.over
#print axioms provedKeeperTrue
end Go.Proofs.Ytkbilbeaedocjaa
