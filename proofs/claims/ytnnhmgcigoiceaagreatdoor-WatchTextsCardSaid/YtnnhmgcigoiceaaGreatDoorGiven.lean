/-
  What is proved: library functions that are walked by hand.
-/
import Derived.Test.YtnnhmgcigoiceaaGreatDoorTypes
import Derived.Test.YtnnhmgcigoiceaaGreatDoorGivenM
namespace Go.Proofs.YtnnhmgcigoiceaaGreatDoor
open Go Go.RowKit Go.Proofs.YtnnhmgcigoiceaaGreatDoor.Wh

theorem f93_ok {p0 r : List Int} (h : M.f93 p0 = some r) : CallI Tryz.prog 93 [isV p0] (resSl 3 r) := by
  unfold M.f93 at h
  split at h
  · rename_i hlen
    cases h
    have happ : app ([] : List Int) p0 = some p0 := by unfold app; rw [if_pos (by simpa using hlen)]; rfl
    refine callI_of Tryz.func93 rfl Tryz.ntmps93 rfl fun F0 w0 a hS => ?_
    refine wp_seq ?_
    refine st_reg mixed (by kernel_rfl) hS ?_
    refine sc (sg (sp_assign (φ := Pr.is (.slice none 0 0)) (odc fun _ => rfl))) ?_
    refine sn fun a w hS => ?_
    refine exit_then ?_
    refine wp_seq ?_
    refine wp_seq ?_
    refine st_reg mixed (by kernel_rfl) hS ?_
    refine sc (sg (sp_move (od rfl))) ?_
    refine sc (sg (sp_eqlNil (xs := p0) Tryz.underlying39 (od rfl))) ?_
    refine sn fun a w hS => ?_
    refine exit_then ?_
    refine st_condN (xs := p0) hS rfl (fun hx => ?_) ?_
    · refine wp_seq ?_
      subst hx
      refine st_reg mixed (by kernel_rfl) hS ?_
      refine sc (sg (sp_assign (φ := Pr.is (.slice none 0 0)) (odc fun _ => rfl))) ?_
      refine sn fun a w hS => ?_
      have hS := st_nil (α := Int) 3 hS
      refine exit_then ?_
      refine wp_ret ?_
      refine exit_thenR ?_
      exact st_retI 0 () hS ((run_results1 Tryz.results93 a w).trans (congrArg (fun v => Result.ok v w) (hS.get (t := 2) rfl))) rfl
    · refine wp_skip ?_
      refine exit_then ?_
      refine wp_seq ?_
      refine l_start ?_
      refine s_new0 sl39 hS rfl fun a w u hS hM => ?_
      refine s_c hS (sg (sp_move (od rfl))) rfl fun a w hS hM => ?_
      refine s_append (k := 0) (Δ := [(5, Pr.is u), (6, isV p0)]) sl39 ze3 hS rfl ⟨od rfl, od rfl, trivial⟩ ⟨fun _ _ _ _ h => h, fun _ _ _ _ h => h, trivial⟩ (od rfl) (od rfl) happ rfl fun a w v hS hM => ?_
      refine s_c hS (sg (sp_assign (φ := Pr.is v) (od rfl))) rfl fun a w hS hM => ?_
      refine l_end ?_
      refine exit_then ?_
      refine wp_ret ?_
      exact st_retI 0 () hS ((run_results1 Tryz.results93 a w).trans (congrArg (fun v => Result.ok v w) (hS.get (t := 2) rfl))) rfl
  · cases h
end Go.Proofs.YtnnhmgcigoiceaaGreatDoor
