/-
  What is proved: library functions that are met by contracts of the shelf.
-/
import Derived.Test.YtjlagmcdoobimaaGreatDoorTypes
import Derived.Test.YtjlagmcdoobimaaGreatDoorBaseD
import Derived.Test.YtjlagmcdoobimaaGreatDoorGivenM
import Derived.Test.YtjlagmcdoobimaaGreatDoorShelf
namespace Go.Proofs.YtjlagmcdoobimaaGreatDoor
open Go Go.RowKit Go.Proofs.YtjlagmcdoobimaaGreatDoor.Wh

theorem f65_ok {p0 r : List S_api_Offer} (h : M.f65 p0 = some r) : CallI Tryz.prog 65 [isV p0] (resSl 23 r) := by
  unfold M.f65 at h
  split at h
  · rename_i hlen
    cases h
    have happ : app ([] : List S_api_Offer) p0 = some p0 := by unfold app; rw [if_pos (by simpa using hlen)]; rfl
    refine callI_of Tryz.func65 rfl Tryz.ntmps65 rfl fun F0 w0 a hS => ?_
    refine wp_seq ?_
    refine st_reg mixed (by kernel_rfl) hS ?_
    refine sc (sg (sp_assign (φ := Pr.is (.slice none 0 0)) (odc fun _ => rfl))) ?_
    refine sn fun a w hS => ?_
    refine exit_then ?_
    refine wp_seq ?_
    refine wp_seq ?_
    refine st_reg mixed (by kernel_rfl) hS ?_
    refine sc (sg (sp_move (od rfl))) ?_
    refine sc (sg (sp_eqlNil (xs := p0) Tryz.underlying31 (od rfl))) ?_
    refine sn fun a w hS => ?_
    refine exit_then ?_
    refine st_condN (xs := p0) hS rfl (fun hx => ?_) ?_
    · refine wp_seq ?_
      subst hx
      refine st_reg mixed (by kernel_rfl) hS ?_
      refine sc (sg (sp_assign (φ := Pr.is (.slice none 0 0)) (odc fun _ => rfl))) ?_
      refine sn fun a w hS => ?_
      have hS := st_nil (α := S_api_Offer) 23 hS
      refine exit_then ?_
      refine wp_ret ?_
      refine exit_thenR ?_
      exact st_retI 0 () hS ((run_results1 Tryz.results65 a w).trans (congrArg (fun v => Result.ok v w) (hS.get (t := 2) rfl))) rfl
    · refine wp_skip ?_
      refine exit_then ?_
      refine wp_seq ?_
      refine l_start ?_
      refine s_new0 sl31 hS rfl fun a w u hS hM => ?_
      refine s_c hS (sg (sp_move (od rfl))) rfl fun a w hS hM => ?_
      refine s_append (k := 0) (Δ := [(5, Pr.is u), (6, isV p0)]) sl31 ze23 hS rfl ⟨od rfl, od rfl, trivial⟩ ⟨fun _ _ _ _ h => h, fun _ _ _ _ h => h, trivial⟩ (od rfl) (od rfl) happ rfl fun a w v hS hM => ?_
      refine s_c hS (sg (sp_assign (φ := Pr.is v) (od rfl))) rfl fun a w hS hM => ?_
      refine l_end ?_
      refine exit_then ?_
      refine wp_ret ?_
      exact st_retI 0 () hS ((run_results1 Tryz.results65 a w).trans (congrArg (fun v => Result.ok v w) (hS.get (t := 2) rfl))) rfl
  · cases h
/-- slices.Grow of nil: an own slice without elements. -/
theorem grow_own {α : Type} [Enc α] {ρ : Go.Shelf.Ren} (L : Go.Proofs.Lays8.n4 Tryz.prog ρ) (hz : ZeroP Tryz.prog (ρ.t 25) α) {n : Int} (h0 : 0 ≤ n) (hn : n ≤ 1048576) : CallI Tryz.prog (ρ.f 4) [Pr.is (.slice none 0 0), isV n] (resSl (ρ.t 25) ([] : List α)) := by
  intro F w vs hF hfit
  match vs, hfit with
  | [v0, v1], ⟨e0, e1, _⟩ =>
    have e0 : v0 = .slice none 0 0 := e0
    have e1 : v1 = .int .i64 n := e1
    subst e0; subst e1
    obtain ⟨k, rfl⟩ : ∃ k : Nat, n = (k : Int) := ⟨n.toNat, by omega⟩
    obtain ⟨i, z, hi, hzz, hsz, hzs, hps, hby⟩ := hz.out
    cases hk : k with
    | zero =>
      have := Any8.slices_Grow_room L none 0 0 0 w (Nat.le_refl _) (by omega) (by omega) (by omega)
      refine this.mono fun e w' ⟨he, hw⟩ => ?_
      subst hw
      exact ⟨.slice none 0 0, (), he, Wh.Below.refl _ _, own_nil, fun b hb => by simp [resSl, Item.sl, ob, Value.ownBlock] at hb⟩
    | succ q =>
      rw [← hk]
      have hb1 : (0 + k) * i.bytes ≤ 140737488355328 := by
        have := Nat.mul_le_mul (show k ≤ 1048576 by omega) hby
        rw [Nat.zero_add]; omega
      have := Any8.slices_Grow_grow L i z hi hzz (by omega) none 0 0 k [] w (Nat.le_refl _) (by omega) hb1 (by omega) (by simp) (fun _ => rfl) (fun a h => by cases h)
      refine this.mono fun e w' ⟨he, hw⟩ => ?_
      have hge := grownCap_ge w (0 + k) 0 (ρ.t 25)
      have hcm : grownCap w (0 + k) 0 (ρ.t 25) ≤ maxLen := grownCap_le_maxLen w (0 + k) 0 (ρ.t 25) (by unfold maxLen; omega)
      subst hw
      have hbl : Wh.Below w.heap.size w (w.drew.alloc (.cells ([].toArray ++ Builtin.zeroCells z.cells (0 + k - 0) ++ Builtin.zeroCells z.cells (grownCap w (0 + k) 0 (ρ.t 25) - (0 + k))) (ρ.t 25))) := (Wh.Below.refl _ _).drew.alloc (Nat.le_refl _) _
      refine ⟨_, (), he, hbl, ⟨⟨[], ⟨by simp, .inr ⟨w.heap.size, _, _, rfl, Nat.zero_le _, heap_alloc_new w.drew _, Nat.zero_le _, hcm, ?_, by simp⟩⟩, rfl⟩⟩, fun b hb => ?_⟩
      · generalize grownCap w (0 + k) 0 (ρ.t 25) = gc at hge ⊢
        simp only [Array.size_append, List.size_toArray, List.length_nil, size_zeroCells, hzs]
        have e : gc = (0 + k - 0) + (gc - (0 + k)) := by omega
        generalize gc - (0 + k) = u at e ⊢
        generalize 0 + k - 0 = v at e ⊢
        subst e
        rw [Nat.zero_add, ← Nat.add_mul]
      · have := ob_iff.1 hb
        cases this
        exact ⟨Nat.le_refl _, by simp⟩
theorem f63_ok {n : Int} {r : Unit} (h : M.f63 n = some r) : CallI Tryz.prog 63 [Pr.is (.slice none 0 0), isV n] (resSl 23 ([] : List S_api_Offer)) := by
  unfold M.f63 at h
  split at h
  · rename_i hn; exact grow_own (ρ := Tryz.growO_ren) Tryz.growO ze23 hn.1 hn.2
  · cases h
theorem f64_ok {n : Int} {r : Unit} (h : M.f64 n = some r) : CallI Tryz.prog 64 [Pr.is (.slice none 0 0), isV n] (resSl 46 ([] : List S_api_Span)) := by
  unfold M.f64 at h
  split at h
  · rename_i hn; exact grow_own (ρ := Tryz.growS_ren) Tryz.growS ze46 hn.1 hn.2
  · cases h
end Go.Proofs.YtjlagmcdoobimaaGreatDoor
