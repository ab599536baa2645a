/-
  What is proved: slices.Sorted(slices.Values(l)) of integers gives a new slice that holds them, sorted; nothing that was there has changed.
-/
import Derived.Shelf.SlIterI.Sorted
import Derived.Shelf.SortM.Plain
import Derived.Shelf.SortM.SortNone
import Derived.RangeFuncBox
import Derived.RangeFuncLeaves
import Derived.Shelf.Abstract
import Derived.WalkKit
import Derived.OwnWalkIn
import Derived.TacticsInMore
import Derived.LoopNIn
import Derived.LoopIn
import Derived.Test.YtjlagmcdoobimaaGreatShelf
namespace Go.Proofs
open Go.RowKit Go.Maps Go.Sort Go.Shelf

/-- An iterator over the integers zs, for loops that keep what was there. -/
def Gives (P : Program) (n g : Nat) (lb : Array Value) (zs : List Int) (w : World) : Prop :=
  ∀ (l : Nat) (J : List Int → World → Prop) (W : World), Below w.heap.size w W → (∀ pre W', J pre W' → Below w.heap.size w W') →
    (∀ pre x W1, J pre W1 → pre.length < zs.length → YieldAt Fence.wide (n - 1) P l #[encZ x] W1 fun e W' => e = .returned (.bool true) ∧ J (pre ++ [x]) W' ∧ KeepsWalks W1 W') →
    J [] W → CallsIn Fence.wide n P g (#[.func (.yield l) #[] #[]] ++ lb) W fun e W' => (∃ v, e = .returned v) ∧ J zs W'
theorem take_next {zs : List Int} {k : Nat} {x : Int} (h : zs[k]? = some x) : zs.take (k + 1) = zs.take k ++ [x] := by
  rw [List.take_add_one, h]; rfl
set_option maxRecDepth 100000 in
set_option maxHeartbeats 2000000 in
theorem Tryz.vals_some (n l Bs b off cap len : Nat) (zs : List Int) (z : Nat → Int) (hlen : zs.length = len) (hz : ∀ k, k < len → zs[k]? = some (z k)) (hn : 1 ≤ n) (hreach : len * 8 ≤ 140737488351232) (J : List Int → World → Prop)
    (hJ : ∀ pre W j, J pre W → j < len → W.cell? ⟨b, off + j, none⟩ = some (.int .i64 (z j)))
    (hY : ∀ pre x W1, J pre W1 → pre.length < len → YieldAt Fence.wide (n - 1) Tryz.prog l #[encZ x] W1 fun e W' => e = .returned (.bool true) ∧ J (pre ++ [x]) W' ∧ KeepsWalks W1 W')
    (W : World) (hBs : W.cell? ⟨Bs, 0, none⟩ = some (.slice (some ⟨b, off, none⟩) len cap)) (h0 : J [] W) :
    CallsIn Fence.wide n Tryz.prog 39 #[.func (.yield l) #[] #[], .pointer (some ⟨Bs, 0, none⟩)] W fun e W' => (∃ v, e = .returned v) ∧ J zs W' := by
  refine callsIn_of_wp Tryz.func39 rfl trivial ?_ rfl
  simp only [Tryz.ntmps39, List.size_toArray, List.length_cons, List.length_nil, Nat.reduceAdd, Nat.reduceSub, Array.replicate_succ, Array.replicate_zero, List.push_toArray, List.append_toArray, List.nil_append, List.cons_append]
  gi_wp2
  gi_loopw [7] (fun i wr => ∃ k : Nat, k ≤ len ∧ i = .int .i64 k ∧ J (zs.take k) wr)
    (fun i _ => len - (intOf i).toNat)
  case atStart => exact ⟨0, Nat.zero_le _, rfl, h0⟩
  case round =>
    obtain ⟨k, hk, rfl, hJs⟩ := hrel
    by_cases hlt : k < len
    · obtain ⟨fn, tmps, assign, body, hy, hR⟩ := hY _ (z k) wr hJs (by rw [List.length_take, hlen]; omega)
      have hcx := hJ _ wr k hJs hlt
      have hzk := hz k hlt
      gi_wp2
      refine hR.mono ?_
      rintro e W3 ⟨rfl, hJ3, _⟩
      gi_wp2
      go_roundw
      case rel => exact ⟨k + 1, by omega, by simp, by rw [take_next hzk]; exact hJ3⟩
      case measure => simp [intOf]; omega
    · obtain rfl : k = len := by omega
      gi_wp2
      go_end0
      rw [← hlen, List.take_length] at hJs
      exact ⟨⟨_, rfl⟩, hJs⟩
set_option maxRecDepth 100000 in
set_option maxHeartbeats 1000000 in
theorem Tryz.vals_none (n l Bs cap : Nat) (a : Option Addr) (J : List Int → World → Prop) (W : World) (hBs : W.cell? ⟨Bs, 0, none⟩ = some (.slice a 0 cap)) (h0 : J [] W) :
    CallsIn Fence.wide n Tryz.prog 39 #[.func (.yield l) #[] #[], .pointer (some ⟨Bs, 0, none⟩)] W fun e W' => (∃ v, e = .returned v) ∧ J [] W' := by
  refine callsIn_of_wp Tryz.func39 rfl trivial ?_ rfl
  simp only [Tryz.ntmps39, List.size_toArray, List.length_cons, List.length_nil, Nat.reduceAdd, Nat.reduceSub, Array.replicate_succ, Array.replicate_zero, List.push_toArray, List.append_toArray, List.nil_append, List.cons_append]
  gi_wp2
  gi_loopw [7] (fun i wr => i = .int .i64 0 ∧ J [] wr) (fun _ _ => 0)
  case atStart => exact ⟨rfl, h0⟩
  case round =>
    obtain ⟨rfl, hJs⟩ := hrel
    gi_wp2
    go_end0
    exact ⟨⟨_, rfl⟩, hJs⟩
/-- The iterator that slices.Values hands back. -/
theorem Tryz.vals_gives {n Bs : Nat} {hv : Value} {zs : List Int} {w : World} (hn : 1 ≤ n) (hreach : zs.length * 8 ≤ 140737488351232) (hBs : w.cell? ⟨Bs, 0, none⟩ = some hv) (hB : Bs < w.heap.size)
    (h : (∃ a cap, hv = .slice a 0 cap ∧ zs = []) ∨ ∃ b off cap, hv = .slice (some ⟨b, off, none⟩) zs.length cap ∧ b < w.heap.size ∧ ∀ j, j < zs.length → w.cell? ⟨b, off + j, none⟩ = some (.int .i64 (zs[j]?.getD 0))) :
    Gives Tryz.prog n 39 #[.pointer (some ⟨Bs, 0, none⟩)] zs w := by
  intro l J W hW hJ hY h0
  have hc := (hW.cell (p := ⟨Bs, 0, none⟩) hB).trans hBs
  rcases h with ⟨a, cap, rfl, rfl⟩ | ⟨b, off, cap, rfl, hb, hz⟩
  · exact Tryz.vals_none n l Bs cap a J W hc h0
  · exact Tryz.vals_some n l Bs b off cap zs.length zs (fun j => zs[j]?.getD 0) rfl (fun k hk => by rw [List.getElem?_eq_getElem hk]; rfl) hn hreach J (fun pre W' j hp hj => ((hJ pre W' hp).cell (p := ⟨b, off + j, none⟩) hb).trans (hz j hj)) hY W hc h0
section
variable {P : Program} {ρ : Ren} {n g : Nat} {lb : Array Value} {zs : List Int} {w : World}
set_option maxRecDepth 100000 in
set_option maxHeartbeats 2000000 in
/-- slices.AppendSeq of nil: what an iterator gives, in a row of its own. -/
theorem append_gives (L : SlLaysZI.n11 P ρ) (hn : 2 ≤ n) (eg : ∀ args w, (callFunc g args).run P w = .ok (.enter g args) w) (hN : zs.length ≤ maxLen) (hb : zs.length * 8 ≤ 140737488355328) (hs : Gives P (n - 1) g lb zs w) :
    CallsIn Fence.wide n P (ρ.f 11) #[.slice none 0 0, .func (.func g) #[] lb] w fun e w' => ∃ v, e = .returned v ∧ w'.ownsRow w.heap.size (ρ.t 26) 1 v zs.length (zs.map encZ) ∧ (v = .slice none 0 0 ↔ zs = []) ∧ Below w.heap.size w w' := by
  have h1 : 1 ≤ n := by omega
  have mixed := L.mixed; have t0 := L.t0; have a0 := L.a0; have z0 := L.z0; have v0 := L.v0; have t24 := L.t24; have a24 := L.a24; have z24 := L.z24; have v24 := L.v24; have t26 := L.t26; have a26 := L.a26; have z26 := L.z26; have v26 := L.v26; have t28 := L.t28; have a28 := L.a28; have z28 := L.z28; have v28 := L.v28
  have u0 := run_underlying L.t0; have u24 := run_underlying L.t24; have u26 := run_underlying L.t26; have u28 := run_underlying L.t28
  have hne : ρ.t 24 ≠ ρ.t 26 := fun e => by have h := L.t24; rw [e, L.t26] at h; cases h
  obtain ⟨_, _, hf⟩ := L.f11
  refine callsIn_of_wp_marks hf rfl trivial ?_ rfl
  simp only [SlBodyZ.n11_ntmps ρ, List.size_toArray, List.length_cons, List.length_nil, Nat.reduceAdd, Nat.reduceSub, Array.replicate_succ, Array.replicate_zero, List.push_toArray, List.append_toArray, List.nil_append, List.cons_append]
  gi_wp2
  refine wpIn_rangeFunc fun fn hfn => ?_
  -- the box of the slice (block B), the calls that wait (B + 1), the loop (B + 2)
  generalize hA : w.alloc (.cells #[.slice none 0 0] (ρ.t 24)) = A
  have sA : A.heap.size = w.heap.size + 1 := by rw [← hA]; simp
  have bA : Below w.heap.size w A := by rw [← hA]; exact (Below.refl _ w).alloc (Nat.le_refl _) _
  have cA : A.heap[w.heap.size]? = some (.cells #[.slice none 0 0] (ρ.t 24) (0, 0)) := by rw [← hA]; exact World.alloc_heap_new w _
  generalize hR : AnyZI.apRec ρ fn (.func (.func g) #[] lb) w.heap.size A.heap.size .ready none = rec
  have hst : rec.state = .ready := by rw [← hR]; rfl
  have hpd : rec.pending = none := by rw [← hR]; rfl
  generalize hC : (A.alloc (.deferred (some []))).alloc (.loop rec) = C
  have kC : ∀ k, k < A.heap.size → C.heap[k]? = A.heap[k]? := fun k hk => by
    rw [← hC]; exact (Below.heap_alloc _ _ k (by simp; omega)).trans (Below.heap_alloc _ _ k hk)
  have bC : Below w.heap.size w C := by rw [← hC]; exact (bA.alloc bA.size _).alloc (by have := bA.size; simp; omega) _
  have dC : C.heap[A.heap.size]? = some (.deferred (some [])) := by rw [← hC]; exact (Below.heap_alloc _ _ _ (by simp)).trans (World.alloc_heap_new A _)
  have lC : C.heap[A.heap.size + 1]? = some (.loop rec) := by rw [← hC]; have := World.alloc_heap_new (A.alloc (.deferred (some []))) (.loop rec); rwa [World.size_alloc] at this
  have start : AnyZI.ApAt ρ w fn (.func (.func g) #[] lb) w.heap.size (A.heap.size + 1) A.heap.size [] C :=
    ⟨⟨_, (kC _ (by omega)).trans cA, ⟨rfl, .inl ⟨rfl, rfl⟩⟩, by simp⟩, by rw [hR]; exact lC, dC, bC⟩
  refine ⟨A.heap.size + 1, [{ target := .collected A.heap.size, args := #[] }], C, { target := .fn (.func g) lb, args := #[.func (.yield (A.heap.size + 1)) #[] #[]] }, C, g, #[.func (.yield (A.heap.size + 1)) #[] #[]] ++ lb, C, ?_, ?_, fun _ _ => trivial, ?_, fun _ => h1, ?_⟩
  · rw [← hC, ← hR]; exact run_enterLoop_outer _ _ _ _ _
  · simp [resolve, go_sem]
  · simp [invoke, go_sem, eg]
  refine (hs (A.heap.size + 1) (AnyZI.ApAt ρ w fn (.func (.func g) #[] lb) w.heap.size (A.heap.size + 1) A.heap.size) C bC (fun _ _ h => h.below)
    (fun pre x W h hl => AnyZI.apYield L Fence.wide (n - 1 - 1) w fn hfn _ w.heap.size (A.heap.size + 1) A.heap.size (by omega) (by omega) (by omega) (Nat.le_refl _) (by omega) zs.length hN hb pre x W h hl) start).mono ?_
  rintro e D ⟨⟨_, rfl⟩, h⟩
  obtain ⟨v, hv, hrow, hnil⟩ := h.box
  have lD := h.L
  rw [hR] at lD
  have hend := run_endLoop (P := P) lD (by rw [hst]; decide)
  rw [hpd] at hend
  obtain ⟨E, hE⟩ : ∃ E, D.putObj (A.heap.size + 1) (.loop { rec with state := .exhausted, pending := none }) = E := ⟨_, rfl⟩
  rw [hE] at hend
  refine ⟨none, E, hend, ?_⟩
  have gE : D.grownBy E (some (A.heap.size + 1)) := by rw [← hE]; exact grownBy_putObj_a _ _ _
  have cE : E.heap[w.heap.size]? = some (.cells #[v] (ρ.t 24) (0, 0)) := by rw [← hE]; exact (World.putObj_heap_other (by omega)).trans hv
  have dE : E.heap[A.heap.size]? = some (.deferred (some [])) := by rw [← hE]; exact (World.putObj_heap_other (by omega)).trans h.K
  have rE := hrow.kept gE (ownsRow_ne_a hrow lD (fun cur e => by cases e))
  have bE : Below w.heap.size w E := h.below.grown gE h.below.size (fun k e => by cases e; omega)
  obtain ⟨hc3, hf3⟩ := cell_of_box_a cE
  clear hE
  gi_wp2
  rw [← sA]
  refine ⟨by simp, .inl ⟨_, _, rfl, run_takeDeferred dE, ?_⟩⟩
  exact ⟨_, results_tmp rfl _ _ _, v, rfl, rE.kept (grownBy_putObj_a _ _ _) (ownsRow_ne_a rE dE (fun cur e => by cases e)), hnil, bE.grown (grownBy_putObj_a _ _ _) bE.size (fun k e => by cases e; omega)⟩
set_option maxRecDepth 100000 in
set_option maxHeartbeats 2000000 in
/-- slices.Sorted of what an iterator gives. -/
theorem sorted_gives (L : SlLaysZI.n6 P ρ) (hn : 4 ≤ n) (hsort : AnyZI.SortsIn P ρ Fence.wide (n - 1)) (e9 : ∀ args w, (callFunc (ρ.f 9) args).run P w = .ok (.enter (ρ.f 9) args) w) (eg : ∀ args w, (callFunc g args).run P w = .ok (.enter g args) w)
    (hN : zs.length ≤ maxLen) (hb : zs.length * 8 ≤ 140737488355328) (hs : Gives P (n - 1 - 1 - 1) g lb zs w) :
    CallsIn Fence.wide n P (ρ.f 6) #[.func (.func g) #[] lb] w fun e w' => ∃ v, e = .returned v ∧
      w'.ownsRow w.heap.size (ρ.t 26) 1 v zs.length ((zs.mergeSort fun x y => decide (x ≤ y)).map encZ) ∧ Below w.heap.size w w' := by
  have h1 : 1 ≤ n := by omega
  have h8 : Fence.wide.fn (ρ.f 8) := trivial
  have h9 : Fence.wide.fn (ρ.f 9) := trivial
  have h11 : Fence.wide.fn (ρ.f 11) := trivial
  have e8 : ∀ args w, (callFunc (ρ.f 8) args).run P w = .ok (.enter (ρ.f 8) args) w := L.f8.enters rfl
  have e11 : ∀ args w, (callFunc (ρ.f 11) args).run P w = .ok (.enter (ρ.f 11) args) w := L.f11.enters rfl
  have mixed := L.mixed; have t0 := L.t0; have a0 := L.a0; have z0 := L.z0; have v0 := L.v0; have t24 := L.t24; have a24 := L.a24; have z24 := L.z24; have v24 := L.v24; have t26 := L.t26; have a26 := L.a26; have z26 := L.z26; have v26 := L.v26; have t28 := L.t28; have a28 := L.a28; have z28 := L.z28; have v28 := L.v28
  have u0 := run_underlying L.t0; have u24 := run_underlying L.t24; have u26 := run_underlying L.t26; have u28 := run_underlying L.t28
  have hap := append_gives (n := n - 1 - 1) { L with } (by omega) eg hN hb hs
  have hcol : CallsIn Fence.wide (n - 1) P (ρ.f 8) #[.func (.func g) #[] lb] w fun e w' => ∃ v, e = .returned v ∧ w'.ownsRow w.heap.size (ρ.t 26) 1 v zs.length (zs.map encZ) ∧ (v = .slice none 0 0 ↔ zs = []) ∧ Below w.heap.size w w' := by
    obtain ⟨_, _, hf⟩ := L.f8
    have h1 : 1 ≤ n - 1 := by omega
    refine callsIn_of_wp hf rfl trivial ?_ rfl
    simp only [SlBodyZ.n8_ntmps ρ, List.size_toArray, List.length_cons, List.length_nil, Nat.reduceAdd, Nat.reduceSub, Array.replicate_succ, Array.replicate_zero, List.push_toArray, List.append_toArray, List.nil_append, List.cons_append]
    gi_wp2_with (gi_at_fn (ρ.f 11); refine hap.mono ?_; rintro e w' ⟨v, rfl, hr, hv, hb⟩)
    go_ret
    exact ⟨v, rfl, hr, hv, hb⟩
  obtain ⟨_, _, hf⟩ := L.f6
  refine callsIn_of_wp hf rfl trivial ?_ rfl
  simp only [SlBodyZ.n6_ntmps ρ, List.size_toArray, List.length_cons, List.length_nil, Nat.reduceAdd, Nat.reduceSub, Array.replicate_succ, Array.replicate_zero, List.push_toArray, List.append_toArray, List.nil_append, List.cons_append]
  gi_wp2_with (gi_at_fn (ρ.f 8); refine hcol.mono ?_; rintro e W ⟨v, rfl, hrow, hnil, hb⟩)
  rcases hrow.2 with ⟨rfl, hz⟩ | ⟨q, cap, cur, rfl, hbase, hq, r1, r2, r3, r4⟩
  · obtain rfl : zs = [] := List.eq_nil_of_length_eq_zero hz
    gi_wp2_with (gi_at_fn (ρ.f 9); refine (hsort.2 none 0 W).mono ?_; rintro e w' ⟨rfl, rfl⟩)
    go_ret
    exact ⟨_, rfl, by simpa using hrow, hb⟩
  · have hH : Holds encZ W q 0 zs.toArray := holds_of_block_i hq (by simpa using r4)
    have cS := hsort.1 q 0 cap zs W hH (Array.getElem?_eq_some_iff.1 hq).1 (by omega)
    gi_wp2_with (gi_at_fn (ρ.f 9); refine cS.mono ?_; rintro e w' ⟨rfl, k, os, rfl⟩)
    go_ret
    exact ⟨_, rfl, ownsRow_sorted_i (by simp) hbase hq r1 r2 r3, hb.grown (grownBy_sorted_i _) hb.size (fun j hj => by cases hj; exact hbase)⟩
end
end Go.Proofs
