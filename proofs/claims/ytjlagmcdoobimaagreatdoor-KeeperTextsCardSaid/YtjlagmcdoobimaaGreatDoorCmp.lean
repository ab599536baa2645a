/-
  What is proved: how keeper.fronts compares two pairs: at whatever pairs and in whatever world.
-/
import Derived.Test.YtjlagmcdoobimaaGreatDoorShelf
import Derived.Shelf.Small.Wraps
import Derived.Lib.Walk
import Derived.WalkKit
import Derived.Tactics
import Derived.Tactics2
import Derived.WalkSpells
import Derived.StillTactics
import Derived.Laws.Pointers
import Derived.Deep.RegionHeld3
import Derived.KernelRfl
import Derived.RangeFuncRecord
import Derived.Sort.OwnSorted
namespace Go.Proofs
open Go.Shelf Go.Lib Go.Sort Go.RowKit
/-- The first that is not 0. -/
def orZ (x y : Int) : Int := if x = 0 then y else x
set_option maxHeartbeats 1000000 in
/-- cmp.Or of two numbers. -/
theorem Tryz.or_two (b : Nat) (x y : Int) (w : World) (h0 : w.cell? ⟨b, 0, none⟩ = some (.int .i64 x)) (h1 : w.cell? ⟨b, 1, none⟩ = some (.int .i64 y)) :
    Calls Tryz.prog 60 #[.slice (some ⟨b, 0, none⟩) 2 2] w fun e w' => e = .returned (.int .i64 (orZ x y)) ∧ w' = w := by
  go_enter Tryz.func60, Tryz.ntmps60
  go_wp2
  go_loop [5, 8] (fun _ i => ∃ k : Nat, k ≤ 2 ∧ i = .int .i64 k ∧ (1 ≤ k → x = 0) ∧ (2 ≤ k → y = 0)) (fun _ i => match i with | .int _ m => 2 - m.toNat | _ => 0)
  case atStart => exact ⟨0, by omega, rfl, by omega, by omega⟩
  case round =>
    obtain ⟨k, hk, rfl, hx, hy⟩ := hrel
    rcases (by omega : k = 0 ∨ k = 1 ∨ k = 2) with rfl | rfl | rfl
    · go_wp2
      · have hne : (x != 0) = true := by assumption
        go_ret
        refine ⟨?_, rfl⟩
        unfold orZ
        rw [if_neg (by simpa using hne)]
        rfl
      · have he : (x != 0) = false := by assumption
        exact ⟨⟨1, by omega, rfl, fun _ => by simpa using he, by omega⟩, by decide⟩
    · have hx := hx (by omega)
      go_wp2
      · have hne : (y != 0) = true := by assumption
        go_ret
        refine ⟨?_, rfl⟩
        simp only [orZ, hx, if_true]
        rfl
      · have he : (y != 0) = false := by assumption
        exact ⟨⟨2, by omega, rfl, fun _ => hx, fun _ => by simpa using he⟩, by decide⟩
    · have hx := hx (by omega)
      have hy := hy (by omega)
      go_wp2
      go_ret
      refine ⟨?_, rfl⟩
      simp only [orZ, hx, hy, if_true]
      rfl
theorem cellNew (X : World) (cs : Array Value) (t : TypeId) (j : Nat) : (X.alloc (.cells cs t)).drew.cell? ⟨X.heap.size, j, none⟩ = cs[j]? := by
  have h : (X.alloc (.cells cs t)).drew.heap[X.heap.size]? = some (.cells cs t (0, 0)) := World.alloc_heap_new X _
  unfold World.cell?
  simp only [h]
  rfl
theorem Tryz.grown_three {w W : World} {o1 o2 o3 : Obj} (h : (w.alloc o1).alloc o2 = W) : ∃ q os, (W.alloc o3).drew = grow (w.drewN q) os := by
  subst h
  refine ⟨1, #[o1, o2, o3], ?_⟩
  rw [alloc_eq_grow, alloc_eq_grow, alloc_eq_grow, grow_grow, grow_grow]
  rfl
set_option maxHeartbeats 2000000 in
/-- The comparison. -/
theorem Tryz.pair_cmp (a b c d : Int) (w : World) :
    Calls Tryz.prog 59 #[.agg #[.int .i64 a, .int .i64 b], .agg #[.int .i64 c, .int .i64 d]] w fun e w' =>
      e = .returned (.int .i64 (orZ (Lib.compareInt a c) (Lib.compareInt b d))) ∧ ∃ q os, w' = grow (w.drewN q) os := by
  go_enter Tryz.func59, Tryz.ntmps59
  go_wp2
  generalize hW : (w.alloc (.cells #[.int .i64 a, .int .i64 b] 52)).alloc (.cells #[.int .i64 c, .int .i64 d] 52) = W
  have hA : W.heap[w.heap.size]? = some (.cells #[.int .i64 a, .int .i64 b] 52 (0, 0)) := by rw [← hW]; exact (Below.heap_alloc _ _ _ (by simp)).trans (World.alloc_heap_new w _)
  have hC : W.heap[w.heap.size + 1]? = some (.cells #[.int .i64 c, .int .i64 d] 52 (0, 0)) := by rw [← hW]; have := World.alloc_heap_new (w.alloc (.cells #[.int .i64 a, .int .i64 b] 52)) (.cells #[.int .i64 c, .int .i64 d] 52); rwa [World.size_alloc] at this
  have a0 : W.cell? ⟨w.heap.size, 0, none⟩ = some (.int .i64 a) := by simp [World.cell?, hA]
  have a1 : W.cell? ⟨w.heap.size, 1, none⟩ = some (.int .i64 b) := by simp [World.cell?, hA]
  have c0 : W.cell? ⟨w.heap.size + 1, 0, none⟩ = some (.int .i64 c) := by simp [World.cell?, hC]
  have c1 : W.cell? ⟨w.heap.size + 1, 1, none⟩ = some (.int .i64 d) := by simp [World.cell?, hC]
  have n0 := World.new_ne W _ a0
  have n1 := World.new_ne W _ a1
  have n2 := World.new_ne W _ c0
  have n3 := World.new_ne W _ c1
  go_region_held3 (fun w' => w'.cell? ⟨w.heap.size, 0, none⟩ = some (.int .i64 a) ∧ w'.cell? ⟨w.heap.size, 1, none⟩ = some (.int .i64 b) ∧ w'.cell? ⟨w.heap.size + 1, 0, none⟩ = some (.int .i64 c) ∧ w'.cell? ⟨w.heap.size + 1, 1, none⟩ = some (.int .i64 d)) (go_keep)
    (first
      | (go_at_call 61; refine (Any.cmp_Compare_int Tryz.cmpI _ _ _).mono ?_; rintro e w' ⟨rfl, rfl⟩)
      | (go_at_call 60; refine (Tryz.or_two _ (Lib.compareInt a c) (Lib.compareInt b d) _ ?_ ?_).mono ?_; (exact (cellNew _ _ _ _).trans rfl); (exact (cellNew _ _ _ _).trans rfl); rintro e w' ⟨rfl, rfl⟩))
  all_goals go_wp2
  all_goals go_ret
  all_goals refine ⟨rfl, ?_⟩
  all_goals exact Tryz.grown_three hW
end Go.Proofs
