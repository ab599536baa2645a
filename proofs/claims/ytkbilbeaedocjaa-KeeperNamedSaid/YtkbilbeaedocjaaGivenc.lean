/-
  What is proved: slices.Clone of lists of lists of pairs: an own slice.
-/
import Derived.Test.YtkbilbeaedocjaaTypes
import Derived.Test.YtkbilbeaedocjaaBaseD
import Derived.Test.YtkbilbeaedocjaaGivenMc
namespace Go.Proofs.Ytkbilbeaedocjaa
open Go Go.RowKit Go.Proofs.Ytkbilbeaedocjaa.Wh

theorem f35_ok {p0 r : List (List (Vector Int 2))} (h : M.f35 p0 = some r) : CallI Try.prog 35 [isV p0] (resSl 48 r) := by
  unfold M.f35 at h
  split at h
  · rename_i hlen
    cases h
    have happ : app ([] : List (List (Vector Int 2))) p0 = some p0 := by unfold app; rw [if_pos (by simpa using hlen)]; rfl
    refine callI_of Try.func35 rfl Try.ntmps35 rfl fun F0 w0 a hS => ?_
    refine wp_seq ?_
    refine st_reg mixed (by kernel_rfl) hS ?_
    refine sc (sg (sp_assign (φ := Pr.is (.slice none 0 0)) (odc fun _ => rfl))) ?_
    refine sn fun a w hS => ?_
    refine exit_then ?_
    refine wp_seq ?_
    refine wp_seq ?_
    refine st_reg mixed (by kernel_rfl) hS ?_
    refine sc (sg (sp_move (od rfl))) ?_
    refine sc (sg (sp_eqlNil (xs := p0) Try.underlying44 (od rfl))) ?_
    refine sn fun a w hS => ?_
    refine exit_then ?_
    refine st_condN (xs := p0) hS rfl (fun hx => ?_) ?_
    · refine wp_seq ?_
      subst hx
      refine st_reg mixed (by kernel_rfl) hS ?_
      refine sc (sg (sp_assign (φ := Pr.is (.slice none 0 0)) (odc fun _ => rfl))) ?_
      refine sn fun a w hS => ?_
      have hS := st_nil (α := List (Vector Int 2)) 48 hS
      refine exit_then ?_
      refine wp_ret ?_
      refine exit_thenR ?_
      exact st_retI 0 () hS ((run_results1 Try.results35 a w).trans (congrArg (fun v => Result.ok v w) (hS.get (t := 2) rfl))) rfl
    · refine wp_skip ?_
      refine exit_then ?_
      refine wp_seq ?_
      refine l_start ?_
      refine s_new0 sl44 hS rfl fun a w u hS hM => ?_
      refine s_c hS (sg (sp_move (od rfl))) rfl fun a w hS hM => ?_
      refine s_append (k := 0) (Δ := [(5, Pr.is u), (6, isV p0)]) sl44 ze48 hS rfl ⟨od rfl, od rfl, trivial⟩ ⟨fun _ _ _ _ h => h, fun _ _ _ _ h => h, trivial⟩ (od rfl) (od rfl) happ rfl fun a w v hS hM => ?_
      refine s_c hS (sg (sp_assign (φ := Pr.is v) (od rfl))) rfl fun a w hS hM => ?_
      refine l_end ?_
      refine exit_then ?_
      refine wp_ret ?_
      exact st_retI 0 () hS ((run_results1 Try.results35 a w).trans (congrArg (fun v => Result.ok v w) (hS.get (t := 2) rfl))) rfl
  · cases h
end Go.Proofs.Ytkbilbeaedocjaa
