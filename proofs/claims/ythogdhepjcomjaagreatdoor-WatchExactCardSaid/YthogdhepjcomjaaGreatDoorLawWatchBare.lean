/-
  What is proved: for all rosters, gates and lists the model of WatchBare returns true.
-/
import Derived.Test.YthogdhepjcomjaaGreatDoorWatY
namespace Go.Proofs.YthogdhepjcomjaaGreatDoor
open Go Go.Proofs.YthogdhepjcomjaaGreatDoor.Wh

section
variable {r : S_api_Roster} {g : Int} {l : List Int}
/-- What lists of turns are answered with ahead of all others. -/
def barE (r : S_api_Roster) (g : Int) (l : List Int) : Int := if gateE r g = 0 then (if (l.all (gtB r g) && difB l) = true then (if 8 < (l.length : Int) then 2 else 0) else 1) else gateE r g
theorem f104_eq (hl : l.length ≤ 100) : M.f104 r g l = some (barE r g l) := by
  unfold M.f104 barE
  rw [f73_eq]
  simp only [Option.bind_eq_bind, Option.bind_some]
  by_cases q : ¬ gateE r g = 0
  · rw [if_pos (by simpa using q), if_neg q]
  replace q : gateE r g = 0 := by omega
  obtain ⟨h, hg0, hg1⟩ := gateE_zero q
  rw [if_neg (by simp [q]), if_pos q]
  have hn : decide (g < 0) = false := by rw [decide_eq_false_iff_not]; omega
  have egt : l.all (gtB r g) = (l.all (inR r) && l.all (fun x => (tn r x).1 == g)) := by
    apply Bool.eq_iff_iff.2
    simp only [Bool.and_eq_true, List.all_eq_true]
    constructor
    · intro q
      refine ⟨fun x hx => ?_, fun x hx => ?_⟩
      · have := q x hx; unfold gtB at this; rw [hn, Bool.false_or, Bool.and_eq_true] at this; exact this.1
      · have := q x hx; unfold gtB at this; rw [hn, Bool.false_or, Bool.and_eq_true] at this; exact this.2
    · rintro ⟨q1, q2⟩ x hx
      unfold gtB
      rw [hn, Bool.false_or, Bool.and_eq_true]
      exact ⟨q1 x hx, q2 x hx⟩
  rw [egt]
  simp only [f85_eq (show l.length ≤ 4294967296 by omega), h.h, if_true, Option.bind_some]
  cases ha : l.all (inR r) with
  | false => simp [guardO]
  | true =>
    simp only [if_true, bne_self_eq_false, Bool.not_false, guardO, f86_eq (show l.length ≤ 4294967296 by omega), Option.bind_some, Bool.false_or, Bool.true_and]
    cases hd : difB l with
    | false => simp
    | true =>
      have e2 : M.f42 l (fun x0 => M.f150 x0 r g) = some (l.any fun x => !((tn r x).1 == g)) := f42_eq _ (by omega) fun x hx => by
        unfold M.f150
        simp only [Vd.idxT (List.all_eq_true.1 ha x hx), Option.bind_eq_bind, Option.bind_some]
        rfl
      have e3 : (l.any fun x => !((tn r x).1 == g)) = !l.all (fun x => (tn r x).1 == g) := by rw [List.all_eq_not_any_not, Bool.not_not]
      simp only [Bool.not_true, Bool.not_false, e2, e3, Option.bind_some, Bool.false_or, Bool.and_true]
      cases l.all (fun x => (tn r x).1 == g) with
      | false => rfl
      | true =>
        simp only [Bool.not_true, Bool.false_eq_true, if_false, if_true]
        by_cases q8 : 8 < (l.length : Int)
        · rw [if_pos (by rw [decide_eq_true_eq]; exact q8), if_pos q8]
        · rw [if_neg (by rw [decide_eq_true_eq]; exact q8), if_neg q8]
theorem barE_zero (hb : barE r g l = 0) : (Vd r ∧ 0 ≤ g ∧ g < r.1) ∧ l.all (inR r) = true ∧ l.length ≤ 8 := by
  unfold barE at hb
  split at hb
  · rename_i q
    split at hb
    · rename_i q2
      rw [Bool.and_eq_true] at q2
      split at hb
      · cases hb
      · refine ⟨gateE_zero q, List.all_eq_true.2 fun x hx => ?_, by omega⟩
        have := List.all_eq_true.1 q2.1 x hx
        unfold gtB at this
        rw [Bool.and_eq_true] at this
        exact this.1
    · cases hb
  · rename_i q; exact absurd hb q
/-! ### whether a gate can be bare -/
def lo0 (r : S_api_Roster) : List Int := (List.replicate r.2.2.2.1.length (-67108864)).set 0 r.2.1
def hi0 (r : S_api_Roster) : List Int := (List.replicate r.2.2.2.1.length 67108864).set 0 (r.2.2.1 - 1)
theorem get_rep {n a : Nat} {x : Int} (ha : a < n) : (List.replicate n x).getD a 0 = x := by
  rw [List.getD_eq_getElem?_getD, List.getElem?_replicate, if_pos ha]; rfl
theorem lo0_get (h : Vd r) {a : Nat} (ha : a < r.2.2.2.1.length) : (lo0 r).getD a 0 = if a = 0 then r.2.1 else -67108864 := by
  unfold lo0
  rw [get_set (by rw [List.length_replicate]; exact h.n1)]
  split
  · rfl
  · exact get_rep ha
theorem hi0_get (h : Vd r) {a : Nat} (ha : a < r.2.2.2.1.length) : (hi0 r).getD a 0 = if a = 0 then r.2.2.1 - 1 else 67108864 := by
  unfold hi0
  rw [get_set (by rw [List.length_replicate]; exact h.n1)]
  split
  · rfl
  · exact get_rep ha
theorem bds0 (h : Vd r) : Bds r (lo0 r) (hi0 r) := by
  have ht := h.time
  refine ⟨by unfold lo0; simp, by unfold hi0; simp, fun a ha => ?_, fun a ha => ?_, ?_⟩
  · rw [lo0_get h ha]; split <;> omega
  · rw [hi0_get h ha]; split <;> omega
  · rw [lo0_get h (by have := h.n1; omega), if_pos rfl]; omega
/-- What the program's Bare returns. -/
theorem f29_so (hl : l.length ≤ 100) {fuel : Nat} (hf : 200 < fuel) : (barE r g l ≠ 0 ∧ M.f29 fuel r g l = some ([], false, barE r g l)) ∨ (barE r g l = 0 ∧ ∃ v, M.f29 fuel r g l = some (v.1, v.2, 0) ∧ Fnd r l (lo0 r) (hi0 r) v) := by
  by_cases q : barE r g l = 0
  · obtain ⟨⟨h, hg0, hg1⟩, ha, hl8⟩ := barE_zero q
    have hn1 := h.n1
    have h8 := h.n8
    have ht := h.time
    obtain ⟨v, e, hv⟩ := f106_so h l (lo0 r) (hi0 r) fuel (by omega) ha (bds0 h)
    refine .inr ⟨q, v, ?_, hv⟩
    unfold M.f29
    have e1 : M.f105 [-67108864] (r.2.2.2.1.length : Int) = some (List.replicate r.2.2.2.1.length (-67108864)) := by unfold M.f105; simp only; rw [if_pos (by omega)]; rfl
    have e2 : M.f105 [67108864] (r.2.2.2.1.length : Int) = some (List.replicate r.2.2.2.1.length 67108864) := by unfold M.f105; simp only; rw [if_pos (by omega)]; rfl
    have e3 : idx (List.replicate r.2.2.2.1.length (-67108864 : Int)) 0 = some ((List.replicate r.2.2.2.1.length (-67108864 : Int)).getD 0 0) := idx_getD (j := 0) (by rw [List.length_replicate]; omega)
    have e4 : idx (List.replicate r.2.2.2.1.length (67108864 : Int)) 0 = some ((List.replicate r.2.2.2.1.length (67108864 : Int)).getD 0 0) := idx_getD (j := 0) (by rw [List.length_replicate]; omega)
    have e5 : ∀ z, set1 (List.replicate r.2.2.2.1.length (-67108864 : Int)) 0 z = some ((List.replicate r.2.2.2.1.length (-67108864 : Int)).set 0 z) := fun z => set_at (j := 0) (by rw [List.length_replicate]; omega)
    have e6 : ∀ z, set1 (List.replicate r.2.2.2.1.length (67108864 : Int)) 0 z = some ((List.replicate r.2.2.2.1.length (67108864 : Int)).set 0 z) := fun z => set_at (j := 0) (by rw [List.length_replicate]; omega)
    have e' : M.f106 fuel r l ((List.replicate r.2.2.2.1.length (-67108864 : Int)).set 0 r.2.1, (List.replicate r.2.2.2.1.length (67108864 : Int)).set 0 (r.2.2.1 - 1)) = some v := e
    rw [f104_eq hl, q]
    simp only [Option.bind_eq_bind, Option.bind_some, bne_self_eq_false, Bool.false_eq_true, if_false, e1, e2, e3, e4, e5, e6, wr_id (n := r.2.2.1 - 1) (by omega) (by omega), e']
  · refine .inl ⟨q, ?_⟩
    unfold M.f29
    rw [f104_eq hl]
    simp only [Option.bind_eq_bind, Option.bind_some]
    rw [if_pos (by simpa using q)]
/-- The specification's bounds. -/
def F0 (r : S_api_Roster) (a b : Nat) : Int := if a < r.2.2.2.1.length then (if b < r.2.2.2.1.length then ahd r a b else far) else (if b < r.2.2.2.1.length then far else 0)
end
end Go.Proofs.YthogdhepjcomjaaGreatDoor
