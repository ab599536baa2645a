/-
  What is proved: the statement KeeperDistances, for every input: the law returns true, and its arguments read behind the call as they read before.
  Conditions: none.
-/
import Derived.Test.YtjlagmcdoobimaaGreatRows
import Derived.Test.YtjlagmcdoobimaaGreatOpen
import Derived.Test.YtjlagmcdoobimaaGreatWalkC
import Derived.Test.YtjlagmcdoobimaaGreatLawKeeperDistances
set_option linter.unusedVariables false
namespace Go.Proofs.YtjlagmcdoobimaaGreat.keeperDistancesDone
open Go Go.ChangeShapes Go.WideShapes Go.ChangeAt Go.RowKit Go.Proofs.YtjlagmcdoobimaaGreat.Wh

theorem own : ownKnob Tryz.prog.godebug = none := by kernel_rfl
theorem laidOut : laidOutB Tryz.prog = true := by kernel_rfl
theorem keeps : ([24, 25, 3, 3, 3, 3].all fun t => Tryz.prog.readableRec t && Nat.blt t Tryz.prog.types.size) = true := by kernel_rfl
set_option maxRecDepth 100000 in
theorem lifted (os : Os) (started : os.Started) (H : Type) (enc : TypeId × Value → H) :
    ReturnsInHanded {} Tryz.checked os 3 .any (Rows.keeperDistancesSpec.pre6 enc Tryz.prog Tryz.f3 Rows.keeperDistancesRow.domain false) (Rows.keeperDistancesSpec.post enc Tryz.prog Tryz.f3 false true false false) := by
  refine returnsInHanded_of_change (C := Tryz.checked) own started (by kernel_rfl) Tryz.func3
    (ChangeSpec.witness6 (enc := enc) (C := Tryz.checked) false ⟨#[], #[.agg #[.int .i64 0, .slice none 0 0, .slice none 0 0], .slice none 0 0, .int .i64 0, .int .i64 0, .int .i64 0, .int .i64 0], []⟩ 8 (by kernel_rfl) (by kernel_rfl) (by kernel_rfl) (by kernel_rfl)) ?_
  intro W base args ds gs before hval0 hW hcnd _
  have hval : ∀ (j : Nat) t v, Tryz.f3.params[j]? = some t → args[j]? = some v → Value.okWide Tryz.prog W .any base t v := hval0
  have hW' := hW
  obtain ⟨p, q, hA0, hV, rfl, hfz, hnd⟩ := hW
  have hA : DataW.TrodAll enc Tryz.prog W 0 (fun _ => true) true Tryz.f3.params.toList args.toList ds p := hA0
  rw [Tryz.params3] at hA hval
  have hB := hA
  obtain ⟨v0, vs0, d0, ds0, p0, q0, hargs0, rfl, rfl, h0, r0⟩ := trodAll_cons hA
  obtain ⟨v1, vs1, d1, ds1, p1, q1, hargs1, rfl, rfl, h1, r1⟩ := trodAll_cons r0
  subst hargs1
  obtain ⟨v2, vs2, d2, ds2, p2, q2, hargs2, rfl, rfl, h2, r2⟩ := trodAll_cons r1
  subst hargs2
  obtain ⟨v3, vs3, d3, ds3, p3, q3, hargs3, rfl, rfl, h3, r3⟩ := trodAll_cons r2
  subst hargs3
  obtain ⟨v4, vs4, d4, ds4, p4, q4, hargs4, rfl, rfl, h4, r4⟩ := trodAll_cons r3
  subst hargs4
  obtain ⟨v5, vs5, d5, ds5, p5, q5, hargs5, rfl, rfl, h5, r5⟩ := trodAll_cons r4
  subst hargs5
  obtain ⟨rfl, rfl, rfl⟩ := trodAll_nil r5
  obtain rfl : args = #[v0, v1, v2, v3, v4, v5] := by cases args; simp_all
  obtain ⟨rfl, rfl⟩ := trodVars_none hV
  obtain ⟨a0, k0⟩ := op24.top (hval 0 24 v0 rfl rfl) h0
  obtain ⟨a1, k1⟩ := op25.top (hval 1 25 v1 rfl rfl) h1
  obtain ⟨a2, k2⟩ := op3.top (hval 2 3 v2 rfl rfl) h2
  obtain ⟨a3, k3⟩ := op3.top (hval 3 3 v3 rfl rfl) h3
  obtain ⟨a4, k4⟩ := op3.top (hval 4 3 v4 rfl rfl) h4
  obtain ⟨a5, k5⟩ := op3.top (hval 5 3 v5 rfl rfl) h5
  clear hA0 hval0
  obtain ⟨fuel, hl⟩ := law_KeeperDistances a0 a1 a2 a3 a4 a5
  refine (f3_ok hl (fun _ => false) W [v0, v1, v2, v3, v4, v5] (fun b hb => by cases hb) ⟨k0, k1, k2, k3, k4, k5, trivial⟩).mono fun e W' ⟨v, he, bel, hv⟩ => ?_
  have hv : v = .bool true := hv
  subst he; subst hv
  exact ⟨_, rfl, _, _, _, [], _, [], hW', trodAll_mk1 (shut_bool Tryz.underlying4 _), trodAll_stays laidOut bel keeps hB, rfl, bel.kit.frame _, fun h => by cases h⟩
theorem over : Rows.keeperDistancesRow.holds Tryz.pinned (OpenSpec.ofChange Rows.keeperDistancesSpec) :=
  OpenClaim.holds_of_wide 3 Tryz.f3 rfl rfl rfl rfl rfl rfl rfl ⟨rfl, rfl, rfl, rfl, rfl⟩ rfl rfl rfl rfl rfl (by kernel_rfl) Tryz.func3 (by kernel_rfl)
    (of_decide_eq_true (by kernel_rfl)) (by unfold Func.isWrapper; first | (rw [if_pos (by decide +kernel)]; kernel_rfl) | (rw [if_neg (by decide +kernel)]; exact ⟨rfl, rfl⟩))
    (fun os started H enc _ => lifted os started H enc)
end Go.Proofs.YtjlagmcdoobimaaGreat.keeperDistancesDone
namespace Go.Proofs.YtjlagmcdoobimaaGreat
/-- The statement. -/
theorem provedKeeperDistances : Rows.KeeperDistancesSaid := keeperDistancesDone.over
#print axioms provedKeeperDistances
end Go.Proofs.YtjlagmcdoobimaaGreat
