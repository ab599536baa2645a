/-
  What is proved: a library function that is walked by hand; results of which one lies in memory.
-/
import Derived.Test.YthogdhepjcomjaaGreatDoorGivenR
import Derived.Test.YthogdhepjcomjaaGreatDoorGivenTM
namespace Go.Proofs.YthogdhepjcomjaaGreatDoor.Wh
open Go Go.RowKit
/-- What is let go can be seen. -/
theorem le_erase {F0 : Nat → Bool} {js : List Item} {w : World} (k : Nat) {c : Mem} (h : Mem.le c (vw (pf F0 (Its js)) w)) : Mem.le c (vw (pf F0 (Its (js.eraseIdx k))) w) := by
  refine Mem.le_trans h fun a u e => ?_
  unfold vw at *
  split at e
  · cases e
  · rename_i hf
    rw [if_neg]
    · exact e
    · intro q
      rw [its_erase] at q
      exact hf (pf_erase q)
section
variable {P : Program}
theorem run_resC2 {fn : Func} {α : Type} [Enc α] {T t p : Nat} {F : Nat → Bool} {a : Act} {w : World} {x : α} (hr : fn.results = #[.cell t T, .tmp p]) (hT : TyP P T α) (h : (isA x).p (v2 F w) (tmp a t)) :
    ∃ v, (results fn a.tmps).run P w = .ok (.tuple [v, tmp a p].toArray) w ∧ (isV x).p (v2 F w) v := by
  obtain ⟨v, h1, h2⟩ := run_cell (P := P) hT h
  refine ⟨v, ?_, h2⟩
  simp [results, hr, tmp]
  simp at h1
  cases hq : Sem.run P (asAddr (a.tmps[t]?.getD undef)) w with
  | ok b w1 =>
    rw [hq] at h1
    have h1 : Sem.run P (loadVar T b) w1 = .ok v w := h1
    show (Sem.run P (loadVar T b) w1).andThen _ = _
    rw [h1]; rfl
  | halt e w1 => rw [hq] at h1; cases h1
end
end Go.Proofs.YthogdhepjcomjaaGreatDoor.Wh
namespace Go.Proofs.YthogdhepjcomjaaGreatDoor
open Go Go.RowKit Go.Proofs.YthogdhepjcomjaaGreatDoor.Wh

theorem f61_ok {p0 r : List S_api_Turn} (h : M.f61 p0 = some r) : CallI Tryz.prog 61 [isV p0] (resSl 45 r) := by
  unfold M.f61 at h
  split at h
  · rename_i hlen
    cases h
    have happ : app ([] : List S_api_Turn) p0 = some p0 := by unfold app; rw [if_pos (by simpa using hlen)]; rfl
    refine callI_of Tryz.func61 rfl Tryz.ntmps61 rfl fun F0 w0 a hS => ?_
    refine wp_seq ?_
    refine st_reg mixed (by kernel_rfl) hS ?_
    refine sc (sg (sp_assign (φ := Pr.is (.slice none 0 0)) (odc fun _ => rfl))) ?_
    refine sn fun a w hS => ?_
    refine exit_then ?_
    refine wp_seq ?_
    refine wp_seq ?_
    refine st_reg mixed (by kernel_rfl) hS ?_
    refine sc (sg (sp_move (od rfl))) ?_
    refine sc (sg (sp_eqlNil (xs := p0) Tryz.underlying23 (od rfl))) ?_
    refine sn fun a w hS => ?_
    refine exit_then ?_
    refine st_condN (xs := p0) hS rfl (fun hx => ?_) ?_
    · refine wp_seq ?_
      subst hx
      refine st_reg mixed (by kernel_rfl) hS ?_
      refine sc (sg (sp_assign (φ := Pr.is (.slice none 0 0)) (odc fun _ => rfl))) ?_
      refine sn fun a w hS => ?_
      have hS := st_nil (α := S_api_Turn) 45 hS
      refine exit_then ?_
      refine wp_ret ?_
      refine exit_thenR ?_
      exact st_retI 0 () hS ((run_results1 Tryz.results61 a w).trans (congrArg (fun v => Result.ok v w) (hS.get (t := 2) rfl))) rfl
    · refine wp_skip ?_
      refine exit_then ?_
      refine wp_seq ?_
      refine l_start ?_
      refine s_new0 sl23 hS rfl fun a w u hS hM => ?_
      refine s_c hS (sg (sp_move (od rfl))) rfl fun a w hS hM => ?_
      refine s_append (k := 0) (Δ := [(5, Pr.is u), (6, isV p0)]) sl23 ze45 hS rfl ⟨od rfl, od rfl, trivial⟩ ⟨fun _ _ _ _ h => h, fun _ _ _ _ h => h, trivial⟩ (od rfl) (od rfl) happ rfl fun a w v hS hM => ?_
      refine s_c hS (sg (sp_assign (φ := Pr.is v) (od rfl))) rfl fun a w hS hM => ?_
      refine l_end ?_
      refine exit_then ?_
      refine wp_ret ?_
      exact st_retI 0 () hS ((run_results1 Tryz.results61 a w).trans (congrArg (fun v => Result.ok v w) (hS.get (t := 2) rfl))) rfl
  · cases h
end Go.Proofs.YthogdhepjcomjaaGreatDoor
