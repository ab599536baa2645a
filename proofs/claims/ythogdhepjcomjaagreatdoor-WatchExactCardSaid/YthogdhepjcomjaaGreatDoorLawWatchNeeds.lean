/-
  What is proved: for all rosters, gates and lists the model of WatchNeeds returns true.
-/
import Derived.Test.YthogdhepjcomjaaGreatDoorWatT
import Derived.Test.YthogdhepjcomjaaGreatDoorModelO
namespace Go.Proofs.YthogdhepjcomjaaGreatDoor
open Go Go.Proofs.YthogdhepjcomjaaGreatDoor.Wh

/-! ### turns that are needed -/
section
variable {r : S_api_Roster} (h : Vd r) {g : Int} {j : Nat} (hj : j < r.2.2.2.2.length)
include hj
include h
end
open Classical in
/-- What Needed returns. -/
noncomputable def neeV (r : S_api_Roster) (g : Int) : List Int × Int :=
  if gateE r g = 0 then (if (rchL r g (-1)).any (fun x => decide (enI r x ≤ 0)) = true then (selI (fun j => (tnJ r j).1 == g && !((rchL r g (j : Int)).any fun x => decide (enI r x ≤ 0))) r.2.2.2.2.length, 0) else ([], 4)) else ([], gateE r g)
theorem f55_eq {r : S_api_Roster} {g : Int} {fuel : Nat} (hf : 25 < fuel) : M.f55 fuel r g = some (neeV r g) := by
  unfold M.f55 neeV
  rw [f73_eq]
  simp only [Option.bind_eq_bind, Option.bind_some]
  by_cases q : ¬ gateE r g = 0
  · rw [if_pos (by simpa using q), if_neg q]
  replace q : gateE r g = 0 := by omega
  obtain ⟨h, hg0, hg1⟩ := gateE_zero q
  have h24 := h.len
  have hl : ∀ w, (rchL r g w).length ≤ 4294967296 := fun w => by have := rchL_len (r := r) (g := g) (w := w); omega
  rw [if_neg (by simp [q]), if_pos q, f74_eq h hf]
  simp only [Option.bind_some, f77_eq h (hl (-1)) (fun x hx => (rchL_mem.1 hx).inRx)]
  cases hv : (rchL r g (-1)).any (fun x => decide (enI r x ≤ 0)) with
  | false => rfl
  | true =>
    simp only [Bool.not_true, Bool.false_eq_true, if_false, if_true]
    rw [f90_eq (fun j => !((rchL r g (j : Int)).any fun x => decide (enI r x ≤ 0))) h24 fun j _ _ => ?_]
    · rfl
    · unfold M.f125
      simp only [f74_eq h hf, f77_eq h (hl (j : Int)) (fun x hx => (rchL_mem.1 hx).inRx), Option.bind_eq_bind, Option.bind_some]
/-! ### by how much clocks could be less exact -/
def spF (s : Int) (x : S_watch_lag) : Int := if x.2 = true then s else imin s (0 - x.1)
section
variable {r : S_api_Roster} {g : Int} {l : List Int}
def spG (r : S_api_Roster) (l : List Int) (s : Int) (j : Nat) : Int := ((List.range j).map (meP r l)).foldl spF s
theorem spG_succ {s : Int} {j : Nat} : spG r l s (j + 1) = spF (spG r l s j) (meP r l j) := by
  unfold spG
  rw [List.range_succ, List.map_append, List.foldl_append]; rfl
def spaV (r : S_api_Roster) (g : Int) (l : List Int) : Int × Int := if gateE r g = 0 then (if planB r g l = true then (spF (spG r l (spF 1048576 (bgP r l)) (l.length - 1)) (enP r l), 0) else (0, 71)) else (0, gateE r g)
theorem f57_eq {fuel : Nat} (hl2 : l.length ≤ 100) (hf : 200 < fuel) : M.f57 fuel r g l = some (spaV r g l) := by
  unfold M.f57 spaV
  rw [f73_eq]
  simp only [Option.bind_eq_bind, Option.bind_some]
  by_cases q : ¬ gateE r g = 0
  · rw [if_pos (by simpa using q), if_neg q]
  replace q : gateE r g = 0 := by omega
  obtain ⟨h, hg0, hg1⟩ := gateE_zero q
  have ht := h.time
  have hn1 := h.n1
  rw [if_neg (by simp [q]), if_pos q, f118_eq h hl2 (by omega)]
  simp only [Option.bind_some]
  cases hp : planB r g l with
  | false => rfl
  | true =>
    obtain ⟨z, hw, he⟩ := planB_iff.1 hp
    have hne := List.length_pos_iff.2 hw.ne
    have ha : l.all (inR r) = true := List.all_eq_true.2 fun x hx => (hw.all x hx).1
    have step : ∀ (s : Int) (x : S_watch_lag), -2147483648 ≤ x.1 ∧ x.1 ≤ 2147483648 → M.f128 x s = some (spF s x) := fun s x hx => by
      unfold M.f128 spF
      rw [wr_id (n := 0 - x.1) (by omega) (by omega)]
      cases x.2 <;> rfl
    have hi : ∀ k, k < l.length → inR r (l.getD k 0) = true := fun k hk => all_get ha hk
    have bb : ∀ x y, inR r x = true → inR r y = true → -2147483648 ≤ meI r x y ∧ meI r x y ≤ 2147483648 := fun x y hx hy => by
      have t1 := turnB_iff.1 (h.turn hx)
      have t2 := turnB_iff.1 (h.turn hy)
      have := h.bnd (a := (tn r x).2.2.2.1.toNat) (b := (tn r y).2.1.toNat) (by omega) (by omega)
      unfold meI; omega
    simp only [Bool.not_true, Bool.false_eq_true, if_false, if_true]
    refine bnd (f127_eq h (fun j => spG r l (spF 1048576 (bgP r l)) j) (spF (spG r l (spF 1048576 (bgP r l)) (l.length - 1)) (enP r l)) hne (by omega) (by omega) ha ?_ (fun j hj => ?_) ?_) rfl
    · have t1 := turnB_iff.1 (h.turn (hi 0 hne))
      have := h.bnd (a := 0) (b := (tn r (l.getD 0 0)).2.1.toNat) (by omega) (by omega)
      rw [step _ _ (by show -2147483648 ≤ bgI r (l.getD 0 0) ∧ bgI r (l.getD 0 0) ≤ 2147483648; unfold bgI; omega)]
      rfl
    · rw [step _ _ (bb _ _ (hi j (by omega)) (hi (j + 1) hj)), spG_succ]
    · have t1 := turnB_iff.1 (h.turn (hi (l.length - 1) (by omega)))
      have := h.bnd (a := (tn r (l.getD (l.length - 1) 0)).2.2.2.1.toNat) (b := 0) (by omega) (by omega)
      rw [step _ _ (by show -2147483648 ≤ enI r (l.getD (l.length - 1) 0) ∧ enI r (l.getD (l.length - 1) 0) ≤ 2147483648; unfold enI; omega)]
end
end Go.Proofs.YthogdhepjcomjaaGreatDoor
