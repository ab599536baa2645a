/-
  What is proved: for all rosters, gates and lists the model of WatchBare returns true.
-/
import Derived.Test.YthogdhepjcomjaaGreatDoorWatY
namespace Go.Proofs.YthogdhepjcomjaaGreatDoor
open Go Go.Proofs.YthogdhepjcomjaaGreatDoor.Wh

section
variable {r : S_api_Roster} {g : Int} {l : List Int}
/-- What lists of turns are answered with ahead of all others. -/
def barE (r : S_api_Roster) (g : Int) (l : List Int) : Int := if gateE r g = 0 then (if (l.all (gtB r g) && difB l) = true then (if 8 < (l.length : Int) then 2 else 0) else 1) else gateE r g
theorem f104_eq (hl : l.length ≤ 100) : M.f104 r g l = some (barE r g l) := by
  unfold M.f104 barE
  rw [f73_eq]
  simp only [Option.bind_eq_bind, Option.bind_some]
  by_cases q : ¬ gateE r g = 0
  · rw [if_pos (by simpa using q), if_neg q]
  replace q : gateE r g = 0 := by omega
  obtain ⟨h, hg0, hg1⟩ := gateE_zero q
  rw [if_neg (by simp [q]), if_pos q]
  have hn : decide (g < 0) = false := by rw [decide_eq_false_iff_not]; omega
  have egt : l.all (gtB r g) = (l.all (inR r) && l.all (fun x => (tn r x).1 == g)) := by
    apply Bool.eq_iff_iff.2
    simp only [Bool.and_eq_true, List.all_eq_true]
    constructor
    · intro q
      refine ⟨fun x hx => ?_, fun x hx => ?_⟩
      · have := q x hx; unfold gtB at this; rw [hn, Bool.false_or, Bool.and_eq_true] at this; exact this.1
      · have := q x hx; unfold gtB at this; rw [hn, Bool.false_or, Bool.and_eq_true] at this; exact this.2
    · rintro ⟨q1, q2⟩ x hx
      unfold gtB
      rw [hn, Bool.false_or, Bool.and_eq_true]
      exact ⟨q1 x hx, q2 x hx⟩
  rw [egt]
  simp only [f85_eq (show l.length ≤ 4294967296 by omega), h.h, if_true, Option.bind_some]
  cases ha : l.all (inR r) with
  | false => simp [guardO]
  | true =>
    simp only [if_true, bne_self_eq_false, Bool.not_false, guardO, f86_eq (show l.length ≤ 4294967296 by omega), Option.bind_some, Bool.false_or, Bool.true_and]
    cases hd : difB l with
    | false => simp
    | true =>
      have e2 : M.f42 l (fun x0 => M.f150 x0 r g) = some (l.any fun x => !((tn r x).1 == g)) := f42_eq _ (by omega) fun x hx => by
        unfold M.f150
        simp only [Vd.idxT (List.all_eq_true.1 ha x hx), Option.bind_eq_bind, Option.bind_some]
        rfl
      have e3 : (l.any fun x => !((tn r x).1 == g)) = !l.all (fun x => (tn r x).1 == g) := by rw [List.all_eq_not_any_not, Bool.not_not]
      simp only [Bool.not_true, Bool.not_false, e2, e3, Option.bind_some, Bool.false_or, Bool.and_true]
      cases l.all (fun x => (tn r x).1 == g) with
      | false => rfl
      | true =>
        simp only [Bool.not_true, Bool.false_eq_true, if_false, if_true]
        by_cases q8 : 8 < (l.length : Int)
        · rw [if_pos (by rw [decide_eq_true_eq]; exact q8), if_pos q8]
        · rw [if_neg (by rw [decide_eq_true_eq]; exact q8), if_neg q8]
theorem f107_eq {fuel : Nat} (hl : l.length ≤ 100) (hf : 200 < fuel) : M.f107 fuel r g l = some (barE r g l) := by
  unfold M.f107 barE
  rw [f75_eq (by omega)]
  simp only [Option.bind_eq_bind, Option.bind_some]
  by_cases q : ¬ gateE r g = 0
  · rw [if_pos (by simpa using q), if_neg q]
  replace q : gateE r g = 0 := by omega
  rw [if_neg (by simp [q]), if_pos q, f96_eq (by omega) (by omega)]
  simp only [Option.bind_some]
  cases (l.all (gtB r g) && difB l) with
  | false => rfl
  | true =>
    simp only [Bool.not_true, Bool.false_eq_true, if_false, if_true]
    by_cases q8 : 8 < (l.length : Int)
    · rw [if_pos (by rw [decide_eq_true_eq]; exact q8), if_pos q8]
    · rw [if_neg (by rw [decide_eq_true_eq]; exact q8), if_neg q8]
theorem barE_zero (hb : barE r g l = 0) : (Vd r ∧ 0 ≤ g ∧ g < r.1) ∧ l.all (inR r) = true ∧ l.length ≤ 8 := by
  unfold barE at hb
  split at hb
  · rename_i q
    split at hb
    · rename_i q2
      rw [Bool.and_eq_true] at q2
      split at hb
      · cases hb
      · refine ⟨gateE_zero q, List.all_eq_true.2 fun x hx => ?_, by omega⟩
        have := List.all_eq_true.1 q2.1 x hx
        unfold gtB at this
        rw [Bool.and_eq_true] at this
        exact this.1
    · cases hb
  · rename_i q; exact absurd hb q
/-- What a moment is answered with. -/
def chkB (r : S_api_Roster) (g : Int) (l s : List Int) : Int := if barE r g l = 0 then (if shoE r s = 0 then (if (decide (s.getD 0 0 < r.2.1) || decide (r.2.2.1 ≤ s.getD 0 0) || l.any fun x => guB (tn r x) s) = true then 61 else 0) else shoE r s) else barE r g l
theorem f32_eq {s : List Int} (hl : l.length ≤ 100) (hs : s.length ≤ 4294967296) : M.f32 r g l s = some (chkB r g l s) := by
  unfold M.f32 chkB
  rw [f104_eq hl]
  simp only [Option.bind_eq_bind, Option.bind_some]
  by_cases q : ¬ barE r g l = 0
  · rw [if_pos (by simpa using q), if_neg q]
  replace q : barE r g l = 0 := by omega
  obtain ⟨⟨h, hg0, hg1⟩, ha, hl8⟩ := barE_zero q
  have hn1 := h.n1
  have ht := h.time
  rw [if_neg (by simp [q]), if_pos q, f112_eq hs]
  simp only [Option.bind_some]
  cases hi : (decide (s.length = r.2.2.2.1.length) && s.all inS) with
  | false =>
    have e : shoE r s = 1 := by unfold shoE; rw [hi]; rfl
    rw [e]; rfl
  | true =>
    have hi' := hi
    rw [Bool.and_eq_true, decide_eq_true_eq] at hi'
    simp only [Bool.not_true, Bool.false_eq_true, if_false, f113_eq h hi'.1 hi'.2, Option.bind_some]
    cases hm : momB r s with
    | false =>
      have e : shoE r s = 61 := by unfold shoE; rw [hi, hm]; rfl
      rw [e]; rfl
    | true =>
      have e : shoE r s = 0 := by unfold shoE; rw [hi, hm]; rfl
      have e0 : idx s 0 = some (s.getD 0 0) := idx_getD (j := 0) (by omega)
      rw [e]
      have eg : M.f42 l (fun x0 => M.f114 x0 r s) = some (l.any fun x => guB (tn r x) s) := f42_eq _ (by omega) fun x hx => by
        have hx := List.all_eq_true.1 ha x hx
        unfold M.f114
        simp only [Vd.idxT hx, f115_eq (h.turn hx) hi'.1, Option.bind_eq_bind, Option.bind_some]
      simp only [Bool.not_true, Bool.not_false, guardO, e0, f99_eq, Option.bind_some, Bool.false_or, if_true, wr_id (n := r.2.2.1 - 1) (by omega) (by omega)]
      by_cases q1 : r.2.1 ≤ s.getD 0 0
      · by_cases q2 : s.getD 0 0 ≤ r.2.2.1 - 1
        · have d1 : (decide (r.2.1 ≤ s.getD 0 0) && decide (s.getD 0 0 ≤ r.2.2.1 - 1)) = true := by rw [decide_eq_true q1, decide_eq_true q2]; rfl
          have d2 : (decide (s.getD 0 0 < r.2.1) || decide (r.2.2.1 ≤ s.getD 0 0)) = false := by rw [decide_eq_false (by omega), decide_eq_false (by omega)]; rfl
          rw [d1, d2]
          simp only [Bool.not_true, Bool.not_false, eg, Option.bind_some, Bool.false_or]
          generalize (l.any fun x => guB (tn r x) s) = v
          cases v <;> rfl
        · have d1 : (decide (r.2.1 ≤ s.getD 0 0) && decide (s.getD 0 0 ≤ r.2.2.1 - 1)) = false := by rw [decide_eq_false q2, Bool.and_false]
          have d2 : (decide (s.getD 0 0 < r.2.1) || decide (r.2.2.1 ≤ s.getD 0 0)) = true := by rw [decide_eq_true (show r.2.2.1 ≤ s.getD 0 0 by omega), Bool.or_true]
          rw [d1, d2]
          simp
      · have d1 : (decide (r.2.1 ≤ s.getD 0 0) && decide (s.getD 0 0 ≤ r.2.2.1 - 1)) = false := by rw [decide_eq_false q1, Bool.false_and]
        have d2 : (decide (s.getD 0 0 < r.2.1) || decide (r.2.2.1 ≤ s.getD 0 0)) = true := by rw [decide_eq_true (show s.getD 0 0 < r.2.1 by omega), Bool.true_or]
        rw [d1, d2]
        simp
theorem f31_eq {s : List Int} {fuel : Nat} (hl : l.length ≤ 100) (hf : 200 < fuel) : M.f31 fuel r g l s = some (chkB r g l s) := by
  unfold M.f31 chkB
  rw [f107_eq hl hf]
  simp only [Option.bind_eq_bind, Option.bind_some]
  by_cases q : ¬ barE r g l = 0
  · rw [if_pos (by simpa using q), if_neg q]
  replace q : barE r g l = 0 := by omega
  obtain ⟨⟨h, hg0, hg1⟩, ha, hl8⟩ := barE_zero q
  have hn1 := h.n1
  rw [if_neg (by simp [q]), if_pos q, f110_eq h (by omega)]
  simp only [Option.bind_some]
  by_cases qs : ¬ shoE r s = 0
  · rw [if_pos (by simpa using qs), if_neg qs]
  replace qs : shoE r s = 0 := by omega
  obtain ⟨z1, z2, z3⟩ := shoE_zero qs
  have e0 : idx s 0 = some (s.getD 0 0) := idx_getD (j := 0) (by omega)
  rw [if_neg (by simp [qs]), if_pos qs, e0]
  simp only [Option.bind_some]
  cases d1 : decide (s.getD 0 0 < r.2.1) with
  | true => simp [guardO]
  | false =>
    simp only [Bool.not_false, guardO, Option.bind_some, Bool.false_or]
    cases d2 : decide (r.2.2.1 ≤ s.getD 0 0) with
    | true => simp
    | false =>
      simp only [Bool.false_eq_true, if_false, Bool.false_or]
      refine bnd (loopM_all (ρ := Unit ⊕ Int) l (fun x => !guB (tn r x) s) (.inr 61) (.inl ()) fuel (by omega) _ (fun i x hx => ?_) (by simp)) ?_
      · have hi := (List.getElem?_eq_some_iff.1 hx).1
        have hxR := List.all_eq_true.1 ha x (List.mem_of_getElem? hx)
        simp only [lt_dec hi, if_true, idx_nat, hx, Vd.idxT hxR, f111_eq (h.turn hxR) z1, Option.bind_some, wr_succ (show i < 4294967296 by omega)]
        cases guB (tn r x) s <;> rfl
      · have e : (l.all fun x => !guB (tn r x) s) = !(l.any fun x => guB (tn r x) s) := by
          rw [List.all_eq_not_any_not]
          congr 2
          funext x
          rw [Bool.not_not]
        rw [e]
        generalize (l.any fun x => guB (tn r x) s) = v
        cases v <;> rfl

/-! ### whether a gate can be bare -/
def lo0 (r : S_api_Roster) : List Int := (List.replicate r.2.2.2.1.length (-67108864)).set 0 r.2.1
def hi0 (r : S_api_Roster) : List Int := (List.replicate r.2.2.2.1.length 67108864).set 0 (r.2.2.1 - 1)
theorem get_rep {n a : Nat} {x : Int} (ha : a < n) : (List.replicate n x).getD a 0 = x := by
  rw [List.getD_eq_getElem?_getD, List.getElem?_replicate, if_pos ha]; rfl
theorem lo0_get (h : Vd r) {a : Nat} (ha : a < r.2.2.2.1.length) : (lo0 r).getD a 0 = if a = 0 then r.2.1 else -67108864 := by
  unfold lo0
  rw [get_set (by rw [List.length_replicate]; exact h.n1)]
  split
  · rfl
  · exact get_rep ha
theorem hi0_get (h : Vd r) {a : Nat} (ha : a < r.2.2.2.1.length) : (hi0 r).getD a 0 = if a = 0 then r.2.2.1 - 1 else 67108864 := by
  unfold hi0
  rw [get_set (by rw [List.length_replicate]; exact h.n1)]
  split
  · rfl
  · exact get_rep ha
theorem bds0 (h : Vd r) : Bds r (lo0 r) (hi0 r) := by
  have ht := h.time
  refine ⟨by unfold lo0; simp, by unfold hi0; simp, fun a ha => ?_, fun a ha => ?_, ?_⟩
  · rw [lo0_get h ha]; split <;> omega
  · rw [hi0_get h ha]; split <;> omega
  · rw [lo0_get h (by have := h.n1; omega), if_pos rfl]; omega
/-- What the program's Bare returns. -/
theorem f29_so (hl : l.length ≤ 100) {fuel : Nat} (hf : 200 < fuel) : (barE r g l ≠ 0 ∧ M.f29 fuel r g l = some ([], false, barE r g l)) ∨ (barE r g l = 0 ∧ ∃ v, M.f29 fuel r g l = some (v.1, v.2, 0) ∧ Fnd r l (lo0 r) (hi0 r) v) := by
  by_cases q : barE r g l = 0
  · obtain ⟨⟨h, hg0, hg1⟩, ha, hl8⟩ := barE_zero q
    have hn1 := h.n1
    have h8 := h.n8
    have ht := h.time
    obtain ⟨v, e, hv⟩ := f106_so h l (lo0 r) (hi0 r) fuel (by omega) ha (bds0 h)
    refine .inr ⟨q, v, ?_, hv⟩
    unfold M.f29
    have e1 : M.f105 [-67108864] (r.2.2.2.1.length : Int) = some (List.replicate r.2.2.2.1.length (-67108864)) := by unfold M.f105; simp only; rw [if_pos (by omega)]; rfl
    have e2 : M.f105 [67108864] (r.2.2.2.1.length : Int) = some (List.replicate r.2.2.2.1.length 67108864) := by unfold M.f105; simp only; rw [if_pos (by omega)]; rfl
    have e3 : idx (List.replicate r.2.2.2.1.length (-67108864 : Int)) 0 = some ((List.replicate r.2.2.2.1.length (-67108864 : Int)).getD 0 0) := idx_getD (j := 0) (by rw [List.length_replicate]; omega)
    have e4 : idx (List.replicate r.2.2.2.1.length (67108864 : Int)) 0 = some ((List.replicate r.2.2.2.1.length (67108864 : Int)).getD 0 0) := idx_getD (j := 0) (by rw [List.length_replicate]; omega)
    have e5 : ∀ z, set1 (List.replicate r.2.2.2.1.length (-67108864 : Int)) 0 z = some ((List.replicate r.2.2.2.1.length (-67108864 : Int)).set 0 z) := fun z => set_at (j := 0) (by rw [List.length_replicate]; omega)
    have e6 : ∀ z, set1 (List.replicate r.2.2.2.1.length (67108864 : Int)) 0 z = some ((List.replicate r.2.2.2.1.length (67108864 : Int)).set 0 z) := fun z => set_at (j := 0) (by rw [List.length_replicate]; omega)
    have e' : M.f106 fuel r l ((List.replicate r.2.2.2.1.length (-67108864 : Int)).set 0 r.2.1, (List.replicate r.2.2.2.1.length (67108864 : Int)).set 0 (r.2.2.1 - 1)) = some v := e
    rw [f104_eq hl, q]
    simp only [Option.bind_eq_bind, Option.bind_some, bne_self_eq_false, Bool.false_eq_true, if_false, e1, e2, e3, e4, e5, e6, wr_id (n := r.2.2.1 - 1) (by omega) (by omega), e']
  · refine .inl ⟨q, ?_⟩
    unfold M.f29
    rw [f104_eq hl]
    simp only [Option.bind_eq_bind, Option.bind_some]
    rw [if_pos (by simpa using q)]
/-- The specification's bounds. -/
def F0 (r : S_api_Roster) (a b : Nat) : Int := if a < r.2.2.2.1.length then (if b < r.2.2.2.1.length then ahd r a b else far) else (if b < r.2.2.2.1.length then far else 0)
def F1 (r : S_api_Roster) (a b : Nat) : Int := if a < r.2.2.2.1.length then (if b < r.2.2.2.1.length then ahd r a b else ahd r a 0 + (r.2.2.1 - 1)) else (if b < r.2.2.2.1.length then far else 0)
def F2 (r : S_api_Roster) (a b : Nat) : Int := if a < r.2.2.2.1.length then (if b < r.2.2.2.1.length then ahd r a b else ahd r a 0 + (r.2.2.1 - 1)) else (if b < r.2.2.2.1.length then ahd r 0 b - r.2.1 else 0)
theorem F1_eq (h : Vd r) {a b : Nat} : tgI (F0 r) 0 r.2.2.2.1.length (r.2.2.1 - 1) a b = F1 r a b := by
  have hn1 := h.n1
  have ht := h.time
  have b0 : ∀ x, x < r.2.2.2.1.length → -1048576 ≤ ahd r x 0 ∧ ahd r x 0 ≤ 1048576 := fun x hx => h.bnd hx (by omega)
  have b1 : ∀ x y, x < r.2.2.2.1.length → y < r.2.2.2.1.length → -1048576 ≤ ahd r x y ∧ ahd r x y ≤ 1048576 := fun x y hx hy => h.bnd hx hy
  have hn0 : 0 < r.2.2.2.1.length := by omega
  have hnn : ¬ r.2.2.2.1.length < r.2.2.2.1.length := by omega
  unfold tgI F0 F1 imin far
  by_cases ha : a < r.2.2.2.1.length <;> by_cases hb : b < r.2.2.2.1.length <;> simp only [ha, hb, hn0, hnn, if_true, if_false]
  · have := b0 a ha; have := b1 a b ha hb
    split <;> omega
  · have := b0 a ha
    split <;> omega
  · split <;> omega
  · split <;> omega
theorem F2_eq (h : Vd r) {a b : Nat} : tgI (F1 r) r.2.2.2.1.length 0 (0 - r.2.1) a b = F2 r a b := by
  have hn1 := h.n1
  have hn0 : 0 < r.2.2.2.1.length := by omega
  have hnn : ¬ r.2.2.2.1.length < r.2.2.2.1.length := by omega
  have ht := h.time
  have b1 : ∀ x y, x < r.2.2.2.1.length → y < r.2.2.2.1.length → -1048576 ≤ ahd r x y ∧ ahd r x y ≤ 1048576 := fun x y hx hy => h.bnd hx hy
  have z := h.zero hn0
  unfold tgI F1 F2 imin far
  by_cases ha : a < r.2.2.2.1.length <;> by_cases hb : b < r.2.2.2.1.length <;> simp only [ha, hb, hn0, hnn, if_true, if_false]
  · have := h.way ha hn0 hb
    split <;> omega
  · split <;> omega
  · have := b1 0 b hn0 hb
    split <;> omega
  · split <;> omega
theorem F2_cm (h : Vd r) : Cm (r.2.2.2.1.length + 1) (F2 r) ∧ BdM (r.2.2.2.1.length + 1) (F2 r) := by
  have hn1 := h.n1
  have hn0 : 0 < r.2.2.2.1.length := by omega
  have ht := h.time
  have z := h.zero hn0
  refine ⟨⟨fun a _ => ?_, fun a b c _ _ _ => ?_⟩, fun a b _ _ => ?_⟩
  · unfold F2
    by_cases ha : a < r.2.2.2.1.length
    · rw [if_pos ha, if_pos ha]; exact h.zero ha
    · rw [if_neg ha, if_neg ha]
  · unfold F2
    by_cases ha : a < r.2.2.2.1.length <;> by_cases hb : b < r.2.2.2.1.length <;> by_cases hc : c < r.2.2.2.1.length <;> simp only [ha, hb, hc, if_true, if_false]
    · exact h.way ha hb hc
    · have := h.way ha hb hn0; omega
    · have := h.way ha hn0 hc; omega
    · omega
    · have := h.way hn0 hb hc; omega
    · have := h.way hn0 hb hn0; omega
    · omega
    · omega
  · unfold F2
    by_cases ha : a < r.2.2.2.1.length <;> by_cases hb : b < r.2.2.2.1.length <;> simp only [ha, hb, if_true, if_false]
    · have := h.bnd ha hb; omega
    · have := h.bnd ha hn0; omega
    · have := h.bnd hn0 hb; omega
    · omega
/-- Moments are numbers that clocks show ahead of the ground. -/
theorem mom_sol (h : Vd r) (ha : l.all (inR r) = true) : (∃ s, Mom r l (lo0 r) (hi0 r) s) ↔ ∃ x, SolM (r.2.2.2.1.length + 1) (F2 r) x ∧ NgM r l x := by
  have hn1 := h.n1
  have hn0 : 0 < r.2.2.2.1.length := by omega
  have ht := h.time
  have ck : ∀ y ∈ l, (tn r y).2.1.toNat < r.2.2.2.1.length ∧ (tn r y).2.2.2.1.toNat < r.2.2.2.1.length := fun y hy => by
    have := turnB_iff.1 (h.turn (List.all_eq_true.1 ha y hy))
    omega
  constructor
  · rintro ⟨s, hs⟩
    have hnn : ¬ r.2.2.2.1.length < r.2.2.2.1.length := by omega
    have b0 := hs.bnd 0 hn0
    rw [lo0_get h hn0, hi0_get h hn0, if_pos rfl, if_pos rfl] at b0
    refine ⟨fun a => if a < r.2.2.2.1.length then s.getD a 0 else 0, fun a b _ _ => ?_, fun y hy => ?_⟩
    · unfold F2
      by_cases ha : a < r.2.2.2.1.length <;> by_cases hb : b < r.2.2.2.1.length <;> simp only [ha, hb, if_true, if_false]
      · exact hs.dif a b ha hb
      · have := hs.dif a 0 ha hn0; omega
      · have := hs.dif 0 b hn0 hb; omega
      · omega
    · have h1 := ck y hy
      have h2 := guB_false.1 (hs.gu y hy)
      simp only [h1.1, h1.2, hnn, if_true, if_false]
      omega
  · rintro ⟨x, hx, hg⟩
    have key : ∀ a b, a < r.2.2.2.1.length → b < r.2.2.2.1.length → x a - x b ≤ ahd r a b := fun a b ha hb => by
      have := hx a b (by omega) (by omega)
      unfold F2 at this
      rwa [if_pos ha, if_pos hb] at this
    have kn : ∀ a, a < r.2.2.2.1.length → x a - x r.2.2.2.1.length ≤ ahd r a 0 + (r.2.2.1 - 1) := fun a ha => by
      have := hx a r.2.2.2.1.length (by omega) (by omega)
      unfold F2 at this
      rwa [if_pos ha, if_neg (by omega)] at this
    have nk : ∀ b, b < r.2.2.2.1.length → x r.2.2.2.1.length - x b ≤ ahd r 0 b - r.2.1 := fun b hb => by
      have := hx r.2.2.2.1.length b (by omega) (by omega)
      unfold F2 at this
      rwa [if_neg (by omega), if_pos hb] at this
    refine ⟨(List.range r.2.2.2.1.length).map fun a => x a - x r.2.2.2.1.length, by simp, fun a b ha hb => ?_, fun a ha => ?_, fun y hy => ?_⟩
    · rw [get_map ha, get_map hb]
      have := key a b ha hb
      omega
    · rw [get_map ha, lo0_get h ha, hi0_get h ha]
      have h1 := kn a ha
      have h2 := nk a ha
      have h3 := h.bnd ha hn0
      have h4 := h.bnd hn0 ha
      by_cases e : a = 0
      · subst e
        have := h.zero ha
        rw [if_pos rfl, if_pos rfl]
        omega
      · rw [if_neg e, if_neg e]
        omega
    · have h1 := ck y hy
      rw [guB_false, get_map h1.1, get_map h1.2]
      have := hg y hy
      omega
theorem f30_so (hl : l.length ≤ 100) {fuel : Nat} (hf : 200 < fuel) : (barE r g l ≠ 0 ∧ M.f30 fuel r g l = some (false, barE r g l)) ∨ (barE r g l = 0 ∧ ∃ v, M.f30 fuel r g l = some (v, 0) ∧ (v = true ↔ ∃ s, Mom r l (lo0 r) (hi0 r) s)) := by
  by_cases q : barE r g l = 0
  · obtain ⟨⟨h, hg0, hg1⟩, ha, hl8⟩ := barE_zero q
    have hn1 := h.n1
    have h8 := h.n8
    have ht := h.time
    have hn0 : 0 < r.2.2.2.1.length := by omega
    obtain ⟨v, e, hv⟩ := f109_so h l (F2 r) fuel (by omega) ha (F2_cm h).1 (F2_cm h).2
    refine .inr ⟨q, v, ?_, hv.trans (mom_sol h ha).symm⟩
    unfold M.f30
    rw [f107_eq hl hf, q]
    simp only [Option.bind_eq_bind, Option.bind_some, bne_self_eq_false, Bool.false_eq_true, if_false]
    -- the first bounds
    have le_dec : ∀ k : Nat, k < r.2.2.2.1.length + 1 → decide ((k : Int) ≤ (r.2.2.2.1.length : Int)) = true := fun k hk => by rw [decide_eq_true_eq]; omega
    have le_end : decide (((r.2.2.2.1.length + 1 : Nat) : Int) ≤ (r.2.2.2.1.length : Int)) = false := by rw [decide_eq_false_iff_not]; omega
    refine bnd (y := mat (r.2.2.2.1.length + 1) (F0 r)) (loopM_go (N := r.2.2.2.1.length + 1) (fun a : Nat => ((a : Int), (List.range a).map fun x => (List.range (r.2.2.2.1.length + 1)).map fun y => F0 r x y)) _ rfl (by omega) (fun a ha => ?_) (by simp only [le_end, Bool.false_eq_true, if_false]; rfl)) ?_
    · simp only [le_dec a ha, if_true]
      refine bnd (y := (List.range (r.2.2.2.1.length + 1)).map fun y => F0 r a y) (loopM_go (N := r.2.2.2.1.length + 1) (fun c : Nat => ((c : Int), (List.range c).map fun y => F0 r a y)) _ rfl (by omega) (fun c hc => ?_) (by simp only [le_end, Bool.false_eq_true, if_false])) ?_
      · simp only [le_dec c hc, if_true, wr_succ (show c < 4294967296 by omega)]
        have fin : ∀ y : Int, y = F0 r a c → ((app ((List.range c).map fun y => F0 r a y) [y]).bind fun z_21 => some (Out.again (σ := Int × List Int) (ρ := List Int) (((c + 1 : Nat) : Int), z_21))) = some (.again (((c + 1 : Nat) : Int), (List.range (c + 1)).map fun y => F0 r a y)) := fun y hy => by
          rw [app_one (by simp; omega), List.range_succ, List.map_append, hy]; rfl
        by_cases h1 : a < r.2.2.2.1.length
        · have d1 : decide ((a : Int) < (r.2.2.2.1.length : Int)) = true := lt_dec h1
          have e1 : idx r.2.2.2.1 (a : Int) = some (r.2.2.2.1.getD a []) := idx_getD h1
          by_cases h2 : c < r.2.2.2.1.length
          · have d2 : decide ((c : Int) < (r.2.2.2.1.length : Int)) = true := lt_dec h2
            have e3 : idx (r.2.2.2.1.getD a []) (c : Int) = some (ahd r a c) := idx_getD (by rw [h.row h1]; exact h2)
            simp only [d1, d2, Bool.and_self, if_true, e1, e3, Option.bind_some]
            by_cases e : a = c
            · subst e
              simp only [beq_self_eq_true, if_true, Option.bind_some]
              exact fin 0 (by unfold F0; rw [if_pos h1, if_pos h1, h.zero h1])
            · have e4 : ((a : Int) == (c : Int)) = false := by rw [beq_eq_false_iff_ne]; omega
              simp only [e4, Bool.false_eq_true, if_false, Option.bind_some]
              exact fin _ (by unfold F0; rw [if_pos h1, if_pos h2])
          · have d2 : decide ((c : Int) < (r.2.2.2.1.length : Int)) = false := by rw [decide_eq_false_iff_not]; omega
            have e4 : ((a : Int) == (c : Int)) = false := by rw [beq_eq_false_iff_ne]; omega
            simp only [d1, d2, Bool.and_false, Bool.false_eq_true, if_false, e4, Option.bind_some]
            exact fin _ (by unfold F0; rw [if_pos h1, if_neg h2]; rfl)
        · have d1 : decide ((a : Int) < (r.2.2.2.1.length : Int)) = false := by rw [decide_eq_false_iff_not]; omega
          simp only [d1, Bool.false_and, Bool.false_eq_true, if_false, Option.bind_some]
          by_cases h2 : c < r.2.2.2.1.length
          · have e4 : ((a : Int) == (c : Int)) = false := by rw [beq_eq_false_iff_ne]; omega
            simp only [e4, Bool.false_eq_true, if_false, Option.bind_some]
            exact fin _ (by unfold F0; rw [if_neg h1, if_pos h2]; rfl)
          · have e4 : ((a : Int) == (c : Int)) = true := by rw [beq_iff_eq]; omega
            simp only [e4, if_true, Option.bind_some]
            exact fin 0 (by unfold F0; rw [if_neg h1, if_neg h2])
      · rw [app_one (by simp; omega), show List.range (a + 1) = List.range a ++ [a] from List.range_succ, List.map_append, wr_succ (by omega)]
        rfl
    · have bF0 : BdM (r.2.2.2.1.length + 1) (F0 r) := fun a b _ _ => by
        unfold F0 far
        by_cases ha : a < r.2.2.2.1.length <;> by_cases hb : b < r.2.2.2.1.length <;> simp only [ha, hb, if_true, if_false]
        · have := h.bnd ha hb; omega
        all_goals omega
      have bF1 : BdM (r.2.2.2.1.length + 1) (F1 r) := fun a b _ _ => by
        unfold F1 far
        by_cases ha : a < r.2.2.2.1.length <;> by_cases hb : b < r.2.2.2.1.length <;> simp only [ha, hb, if_true, if_false]
        · have := h.bnd ha hb; omega
        · have := h.bnd ha hn0; omega
        all_goals omega
      have m1 : mat (r.2.2.2.1.length + 1) (tgI (F0 r) 0 r.2.2.2.1.length (r.2.2.1 - 1)) = mat (r.2.2.2.1.length + 1) (F1 r) := mat_congr fun a b _ _ => F1_eq h
      have m2 : mat (r.2.2.2.1.length + 1) (tgI (F1 r) r.2.2.2.1.length 0 (0 - r.2.1)) = mat (r.2.2.2.1.length + 1) (F2 r) := mat_congr fun a b _ _ => F2_eq h
      have g1 : ((List.range (r.2.2.2.1.length + 1)).all fun a => decide (0 ≤ tgI (F0 r) 0 r.2.2.2.1.length (r.2.2.1 - 1) a a)) = true := by
        rw [List.all_eq_true]
        intro a _
        rw [F1_eq h, decide_eq_true_eq]
        unfold F1
        by_cases ha : a < r.2.2.2.1.length
        · rw [if_pos ha, if_pos ha, h.zero ha]; omega
        · rw [if_neg ha, if_neg ha]; omega
      have g2 : ((List.range (r.2.2.2.1.length + 1)).all fun a => decide (0 ≤ tgI (F1 r) r.2.2.2.1.length 0 (0 - r.2.1) a a)) = true := by
        rw [List.all_eq_true]
        intro a ha
        rw [F2_eq h, decide_eq_true_eq, (F2_cm h).1.zero a (List.mem_range.1 ha)]
        omega
      have t1 := f108_eq (fuel := fuel) (n := r.2.2.2.1.length + 1) (u := 0) (l := r.2.2.2.1.length) (b := r.2.2.1 - 1) (by omega) (by omega) (by omega) (by omega) bF0 (by omega)
      have t2 := f108_eq (fuel := fuel) (n := r.2.2.2.1.length + 1) (u := r.2.2.2.1.length) (l := 0) (b := 0 - r.2.1) (by omega) (by omega) (by omega) (by omega) bF1 (by omega)
      rw [if_pos g1, m1] at t1
      rw [if_pos g2, m2] at t2
      have t1' : M.f108 fuel (mat (r.2.2.2.1.length + 1) (F0 r)) 0 (r.2.2.2.1.length : Int) (r.2.2.1 - 1) = some (mat (r.2.2.2.1.length + 1) (F1 r), true) := t1
      have t2' : M.f108 fuel (mat (r.2.2.2.1.length + 1) (F1 r)) (r.2.2.2.1.length : Int) 0 (0 - r.2.1) = some (mat (r.2.2.2.1.length + 1) (F2 r), true) := t2
      simp only [wr_id (n := r.2.2.1 - 1) (by omega) (by omega), wr_id (n := 0 - r.2.1) (by omega) (by omega), t1', t2', e, Option.bind_some]
  · refine .inl ⟨q, ?_⟩
    unfold M.f30
    rw [f107_eq hl hf]
    simp only [Option.bind_eq_bind, Option.bind_some]
    rw [if_pos (by simpa using q)]
/-- A moment that is found is one. -/
theorem mom_chk {s : List Int} (hb : barE r g l = 0) (hm : Mom r l (lo0 r) (hi0 r) s) : chkB r g l s = 0 := by
  obtain ⟨⟨h, hg0, hg1⟩, ha, hl8⟩ := barE_zero hb
  have hn1 := h.n1
  have hn0 : 0 < r.2.2.2.1.length := by omega
  have ht := h.time
  have b0 := hm.bnd 0 hn0
  rw [lo0_get h hn0, hi0_get h hn0, if_pos rfl, if_pos rfl] at b0
  have hs : shoE r s = 0 := by
    unfold shoE
    have e1 : (decide (s.length = r.2.2.2.1.length) && s.all inS) = true := by
      rw [Bool.and_eq_true, decide_eq_true_eq, List.all_eq_true]
      refine ⟨hm.len, fun x hx => ?_⟩
      obtain ⟨k, hk, e⟩ := mem_at hx
      rw [hm.len] at hk
      have h1 := hm.dif k 0 hk hn0
      have h2 := hm.dif 0 k hn0 hk
      have h3 := h.bnd hk hn0
      have h4 := h.bnd hn0 hk
      rw [e] at h1 h2
      unfold inS
      rw [Bool.and_eq_true, decide_eq_true_eq, decide_eq_true_eq]
      omega
    have e2 : momB r s = true := by
      unfold momB
      simp only [List.all_eq_true, List.mem_range, decide_eq_true_eq]
      exact fun a ha b hb => hm.dif a b ha hb
    rw [if_pos e1, if_pos e2]
  unfold chkB
  rw [if_pos hb, if_pos hs, if_neg]
  rw [Bool.not_eq_true, Bool.or_eq_false_iff, Bool.or_eq_false_iff, decide_eq_false_iff_not, decide_eq_false_iff_not, List.any_eq_false]
  exact ⟨⟨by omega, by omega⟩, fun x hx => by rw [hm.gu x hx]; simp⟩
end
theorem law_WatchBare (p0 : S_api_Roster) (p1 : Int) (p2 p3 : List Int) : ∃ fuel, M.f4 fuel p0 p1 p2 p3 = some true := by
  refine ⟨1000, ?_⟩
  unfold M.f4
  rw [sane_eq, f17_eq (by simp)]
  simp only [Option.bind_eq_bind, Option.bind_some, Bool.not_true, Bool.false_eq_true, if_false]
  cases hq : fewB p0 [p2, p3] with
  | false => rfl
  | true =>
    have hl : p2.length ≤ 100 ∧ p3.length ≤ 100 := by
      unfold fewB at hq
      simp only [List.all_cons, List.all_nil, Bool.and_true, Bool.and_eq_true, decide_eq_true_eq] at hq
      omega
    rcases f29_so (r := p0) (g := p1) hl.1 (fuel := 1000) (by omega) with ⟨q, e1⟩ | ⟨q, v, e1, hv⟩
    · rcases f30_so (r := p0) (g := p1) hl.1 (fuel := 1000) (by omega) with ⟨_, e2⟩ | ⟨q2, _⟩
      · simp only [e1, e2, f31_eq hl.1 (show 200 < 1000 by omega), f32_eq hl.1 (show p3.length ≤ 4294967296 by omega), Option.bind_some, bne_self_eq_false, Bool.or_self, Bool.not_false, Bool.and_false, guardO, Bool.false_and, List.length_nil]
        simp
      · exact absurd q2 q
    · rcases f30_so (r := p0) (g := p1) hl.1 (fuel := 1000) (by omega) with ⟨q2, _⟩ | ⟨_, w, e2, hw⟩
      · exact absurd q q2
      · rcases hv with ⟨t, hm⟩ | ⟨t, hno⟩
        · have ew : w = true := hw.2 ⟨_, hm⟩
          have ec := mom_chk q hm
          simp [e1, e2, t, ew, guardO, f31_eq hl.1 (show 200 < 1000 by omega), f32_eq hl.1 (show p3.length ≤ 4294967296 by omega), ec]
        · have ew : w = false := by
            cases w with
            | false => rfl
            | true => exact absurd (hw.1 rfl) hno
          simp [e1, e2, t, ew, guardO, f31_eq hl.1 (show 200 < 1000 by omega), f32_eq hl.1 (show p3.length ≤ 4294967296 by omega)]
end Go.Proofs.YthogdhepjcomjaaGreatDoor
