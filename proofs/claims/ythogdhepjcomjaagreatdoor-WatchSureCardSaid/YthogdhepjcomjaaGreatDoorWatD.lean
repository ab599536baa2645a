/-
  What is proved: the words of models of the watch that questions are made of: tests of lists, turns, lags, who guards, what turns cost.
-/
import Derived.Test.YthogdhepjcomjaaGreatDoorWatC
namespace Go.Proofs.YthogdhepjcomjaaGreatDoor
open Go Go.Proofs.YthogdhepjcomjaaGreatDoor.Wh

/-! ### lists -/
theorem f119_eq {l : List Int} {f : Int → Option Bool} (p : Int → Bool) (hl : l.length ≤ 4294967296) (h : ∀ x ∈ l, f x = some (p x)) : M.f119 l f = some (idxF p l) := by
  unfold M.f119
  refine bnd (forM_idx l p hl fun j x hx => ?_) ?_
  · simp only [idx_nat, hx, Option.bind_eq_bind, Option.bind_some, h x (List.mem_of_getElem? hx)]
    cases p x <;> rfl
  · unfold idxF
    cases l.findIdx? p <;> rfl
theorem f42_eq {l : List Int} {f : Int → Option Bool} (p : Int → Bool) (hl : l.length ≤ 4294967296) (h : ∀ x ∈ l, f x = some (p x)) : M.f42 l f = some (l.any p) := by
  unfold M.f42
  rw [f119_eq p hl h]
  simp only [Option.bind_eq_bind, Option.bind_some, idxF_any]
theorem f120_eq {l : List Int} {v : Int} (hl : l.length ≤ 4294967296) : M.f120 l v = some (idxF (fun x => v == x) l) := by
  unfold M.f120
  refine bnd (forM_idx l (fun x => v == x) hl fun j x hx => ?_) ?_
  · simp only [idx_nat, hx, Option.bind_eq_bind, Option.bind_some]
    cases v == x <;> rfl
  · unfold idxF
    cases l.findIdx? (fun x => v == x) <;> rfl
theorem f44_eq {l : List Int} {v : Int} (hl : l.length ≤ 4294967296) : M.f44 l v = some (l.contains v) := by
  unfold M.f44
  rw [f120_eq hl]
  simp only [Option.bind_eq_bind, Option.bind_some, idxF_any, Option.some.injEq]
  rw [List.contains_eq_any_beq]
theorem f24_eq {a b : List Int} (ha : a.length ≤ 4294967296) : M.f24 a b = some (a == b) := by
  unfold M.f24
  by_cases h : a.length = b.length
  · rw [if_neg (by rw [h]; simp)]
    refine bnd (forM_test (fun j => a.getD j 0 == b.getD j 0) false ha fun j hj _ => ?_) ?_
    · simp only [idx_getD (d := (0 : Int)) hj, idx_getD (d := (0 : Int)) (show j < b.length by omega), Option.bind_eq_bind, Option.bind_some]
      generalize a.getD j 0 = u, b.getD j 0 = v
      by_cases e : u = v <;> simp [e]
    · have e : ((List.range a.length).all fun j => a.getD j 0 == b.getD j 0) = (a == b) := by
        apply Bool.eq_iff_iff.2
        simp only [List.all_eq_true, List.mem_range, beq_iff_eq]
        refine ⟨fun q => List.ext_getElem h fun j h1 h2 => ?_, fun q j _ => by rw [q]⟩
        have := q j h1
        rwa [List.getD_eq_getElem?_getD, List.getD_eq_getElem?_getD, List.getElem?_eq_getElem h1, List.getElem?_eq_getElem h2] at this
      rw [e]
      cases a == b <;> rfl
  · rw [if_pos (by simp; omega)]
    have : (a == b) = false := by
      rw [beq_eq_false_iff_ne]; intro e; exact h (by rw [e])
    rw [this]
/-- No number is there twice. -/
def difB (l : List Int) : Bool := (List.range l.length).all fun i => !(l.take i).contains (l.getD i 0)
theorem f86_eq {l : List Int} (hl : l.length ≤ 4294967296) : M.f86 l = some (difB l) := by
  unfold M.f86
  refine bnd (forM_test (fun i => !(l.take i).contains (l.getD i 0)) false hl fun j hj _ => ?_) ?_
  · have hc : cut l (j : Int) = some (l.take j) := by unfold cut; rw [if_pos (by omega)]; simp
    simp only [idx_getD (d := (0 : Int)) hj, hc, Option.bind_eq_bind, Option.bind_some, f44_eq (show (l.take j).length ≤ 4294967296 by rw [List.length_take]; omega)]
    cases (l.take j).contains (l.getD j 0) <;> rfl
  · unfold difB
    generalize ((List.range l.length).all fun i => !(l.take i).contains (l.getD i 0)) = q
    cases q <;> rfl

/-! ### turns -/
def inR (r : S_api_Roster) (x : Int) : Bool := decide (0 ≤ x) && decide (x < (r.2.2.2.2.length : Int))
theorem inR_iff {r : S_api_Roster} {x : Int} : inR r x = true ↔ 0 ≤ x ∧ x < (r.2.2.2.2.length : Int) := by unfold inR; simp
/-- The turn of a number. -/
def tn (r : S_api_Roster) (x : Int) : S_api_Turn := r.2.2.2.2.getD x.toNat (0, 0, 0, 0, 0, 0)
/-- A valid roster: what is known of it. -/
structure Vd (r : S_api_Roster) : Prop where
  h : vldB r = true
theorem Vd.hd {r : S_api_Roster} (h : Vd r) : hdB r = true := by have := h.h; unfold vldB at this; simp only [Bool.and_eq_true] at this; exact this.1.1.1
theorem Vd.rows {r : S_api_Roster} (h : Vd r) : rowsB r = true := by have := h.h; unfold vldB at this; simp only [Bool.and_eq_true] at this; exact this.1.1.2
theorem Vd.tri {r : S_api_Roster} (h : Vd r) : trB r.2.2.2.1.length (ahd r) = true := by have := h.h; unfold vldB at this; simp only [Bool.and_eq_true] at this; exact this.1.2
theorem Vd.turns {r : S_api_Roster} (h : Vd r) : turnsB r = true := by have := h.h; unfold vldB at this; simp only [Bool.and_eq_true] at this; exact this.2
theorem Vd.len {r : S_api_Roster} (h : Vd r) : r.2.2.2.2.length ≤ 24 := by have := hdB_iff.1 h.hd; omega
theorem Vd.n8 {r : S_api_Roster} (h : Vd r) : r.2.2.2.1.length ≤ 8 := by have := hdB_iff.1 h.hd; omega
theorem Vd.n1 {r : S_api_Roster} (h : Vd r) : 1 ≤ r.2.2.2.1.length := by have := hdB_iff.1 h.hd; omega
theorem Vd.time {r : S_api_Roster} (h : Vd r) : 0 ≤ r.2.1 ∧ r.2.1 < r.2.2.1 ∧ r.2.2.1 ≤ 16777216 := by have := hdB_iff.1 h.hd; omega
theorem Vd.bnd {r : S_api_Roster} (h : Vd r) {a b : Nat} (ha : a < r.2.2.2.1.length) (hb : b < r.2.2.2.1.length) : -1048576 ≤ ahd r a b ∧ ahd r a b ≤ 1048576 := ((rowsB_iff.1 h.rows) a ha).2.1 b hb
theorem Vd.zero {r : S_api_Roster} (h : Vd r) {a : Nat} (ha : a < r.2.2.2.1.length) : ahd r a a = 0 := ((rowsB_iff.1 h.rows) a ha).2.2
theorem Vd.row {r : S_api_Roster} (h : Vd r) {a : Nat} (ha : a < r.2.2.2.1.length) : (r.2.2.2.1.getD a []).length = r.2.2.2.1.length := ((rowsB_iff.1 h.rows) a ha).1
theorem Vd.way {r : S_api_Roster} (h : Vd r) {a b c : Nat} (ha : a < r.2.2.2.1.length) (hb : b < r.2.2.2.1.length) (hc : c < r.2.2.2.1.length) : ahd r a c ≤ ahd r a b + ahd r b c := by
  have := h.tri
  unfold trB at this
  simp only [List.all_eq_true, List.mem_range, decide_eq_true_eq] at this
  exact this a ha b hb c hc
theorem turnB_iff {g n : Int} {t : S_api_Turn} : turnB g n t = true ↔ 0 ≤ t.1 ∧ t.1 < g ∧ 0 ≤ t.2.1 ∧ t.2.1 < n ∧ 0 ≤ t.2.2.2.1 ∧ t.2.2.2.1 < n ∧ 0 ≤ t.2.2.1 ∧ t.2.2.1 ≤ 16777216 ∧ 0 ≤ t.2.2.2.2.1 ∧ t.2.2.2.2.1 ≤ 16777216 ∧ 0 ≤ t.2.2.2.2.2 ∧ t.2.2.2.2.2 ≤ 10000 := by unfold turnB; rw [decide_eq_true_eq]
theorem Vd.turn {r : S_api_Roster} (h : Vd r) {x : Int} (hx : inR r x = true) : turnB r.1 (r.2.2.2.1.length : Int) (tn r x) = true := by
  have hx := inR_iff.1 hx
  have := h.turns
  unfold turnsB at this
  rw [List.all_eq_true] at this
  refine this _ ?_
  unfold tn
  rw [List.getD_eq_getElem?_getD, List.getElem?_eq_getElem (by omega)]
  exact List.getElem_mem _
theorem Vd.idxT {r : S_api_Roster} {x : Int} (hx : inR r x = true) : idx r.2.2.2.2 x = some (tn r x) := by
  have hx := inR_iff.1 hx
  exact idx_getI hx.1 hx.2
theorem Vd.idxA {r : S_api_Roster} {a : Int} (h0 : 0 ≤ a) (h1 : a < (r.2.2.2.1.length : Int)) : idx r.2.2.2.1 a = some (r.2.2.2.1.getD a.toNat []) := idx_getI h0 h1
theorem Vd.idxB {r : S_api_Roster} (h : Vd r) {a b : Int} (h0 : 0 ≤ a) (h1 : a < (r.2.2.2.1.length : Int)) (h2 : 0 ≤ b) (h3 : b < (r.2.2.2.1.length : Int)) : idx (r.2.2.2.1.getD a.toNat []) b = some (ahd r a.toNat b.toNat) := by
  refine idx_getI h2 ?_
  rw [h.row (by omega)]; exact h3
theorem f146_eq {r : S_api_Roster} (h : r.2.2.2.2.length ≤ 24) (x : Int) : M.f146 x r = some (!inR r x) := by
  unfold M.f146 inR
  rw [wr_id (by omega) (by omega)]
  simp only [f99_eq, Option.bind_eq_bind, Option.bind_some, Option.some.injEq]
  congr 1
  apply Bool.eq_iff_iff.2
  simp only [Bool.and_eq_true, decide_eq_true_eq]
  omega
theorem f85_eq {r : S_api_Roster} {l : List Int} (hl : l.length ≤ 4294967296) : M.f85 r l = some (if vldB r = true then (if l.all (inR r) = true then 0 else 1) else 70) := by
  unfold M.f85
  rw [f47_eq]
  simp only [Option.bind_eq_bind, Option.bind_some]
  cases h : vldB r with
  | false => rfl
  | true =>
    have hv : Vd r := ⟨h⟩
    simp only [if_true, f42_eq (fun x => !inR r x) hl (fun x _ => f146_eq hv.len x), Option.bind_some]
    have e : (l.any fun x => !inR r x) = !l.all (inR r) := by rw [List.all_eq_not_any_not, Bool.not_not]
    rw [e]
    cases l.all (inR r) <;> rfl
/-- How late a turn begins; how late the watch ends behind it; how late one follows another. -/
def bgI (r : S_api_Roster) (x : Int) : Int := (tn r x).2.2.1 - r.2.1 + ahd r 0 (tn r x).2.1.toNat
def enI (r : S_api_Roster) (x : Int) : Int := r.2.2.1 - (tn r x).2.2.2.2.1 + ahd r (tn r x).2.2.2.1.toNat 0
def meI (r : S_api_Roster) (x y : Int) : Int := (tn r y).2.2.1 - (tn r x).2.2.2.2.1 + ahd r (tn r x).2.2.2.1.toNat (tn r y).2.1.toNat
def foB (r : S_api_Roster) (x y : Int) : Bool := ((x != y) && ((tn r x).1 == (tn r y).1)) && decide (meI r x y ≤ 0)
section
variable {r : S_api_Roster} (h : Vd r)
include h
theorem Vd.lag {a b : Int} {u v : Int} (h0 : 0 ≤ a) (h1 : a < (r.2.2.2.1.length : Int)) (h2 : 0 ≤ b) (h3 : b < (r.2.2.2.1.length : Int)) (hu : 0 ≤ u ∧ u ≤ 16777216) (hv : 0 ≤ v ∧ v ≤ 16777216) : wr (wr (v - u) + ahd r a.toNat b.toNat) = v - u + ahd r a.toNat b.toNat := by
  have := h.bnd (a := a.toNat) (b := b.toNat) (by omega) (by omega)
  rw [wr_id (n := v - u) (by omega) (by omega)]
  exact wr_id (by omega) (by omega)
theorem Vd.bgL {x : Int} (hx : inR r x = true) : wr (wr ((tn r x).2.2.1 - r.2.1) + ahd r 0 (tn r x).2.1.toNat) = bgI r x := by
  have ht := turnB_iff.1 (h.turn hx)
  have := h.n1; have := h.time
  exact h.lag (a := 0) (by omega) (by omega) (by omega) (by omega) (by omega) (by omega)
theorem Vd.enL {x : Int} (hx : inR r x = true) : wr (wr (r.2.2.1 - (tn r x).2.2.2.2.1) + ahd r (tn r x).2.2.2.1.toNat 0) = enI r x := by
  have ht := turnB_iff.1 (h.turn hx)
  have := h.n1; have := h.time
  exact h.lag (b := 0) (by omega) (by omega) (by omega) (by omega) (by omega) (by omega)
theorem Vd.meL {x y : Int} (hx : inR r x = true) (hy : inR r y = true) : wr (wr ((tn r y).2.2.1 - (tn r x).2.2.2.2.1) + ahd r (tn r x).2.2.2.1.toNat (tn r y).2.1.toNat) = meI r x y := by
  have ht := turnB_iff.1 (h.turn hx)
  have hu := turnB_iff.1 (h.turn hy)
  exact h.lag (by omega) (by omega) (by omega) (by omega) (by omega) (by omega)
theorem f148_eq {a b u v : Int} (h0 : 0 ≤ a) (h1 : a < (r.2.2.2.1.length : Int)) (h2 : 0 ≤ b) (h3 : b < (r.2.2.2.1.length : Int)) : M.f148 r a u b v = some (wr (wr (v - u) + ahd r a.toNat b.toNat), a == b) := by
  unfold M.f148
  simp only [Vd.idxA h0 h1, h.idxB h0 h1 h2 h3, Option.bind_eq_bind, Option.bind_some]
theorem f92_eq {x : Int} (hx : inR r x = true) : M.f92 r x = some (bgI r x, (0 : Int) == (tn r x).2.1) := by
  have ht := turnB_iff.1 (h.turn hx)
  have := h.n1
  unfold M.f92
  simp only [Vd.idxT hx, f148_eq h (show (0 : Int) ≤ 0 by omega) (show (0 : Int) < (r.2.2.2.1.length : Int) by omega) (show 0 ≤ (tn r x).2.1 by omega) (by omega), Option.bind_eq_bind, Option.bind_some]
  rw [← h.bgL hx]; rfl
theorem f102_eq {x : Int} (hx : inR r x = true) : M.f102 r x = some (enI r x, (tn r x).2.2.2.1 == (0 : Int)) := by
  have ht := turnB_iff.1 (h.turn hx)
  have := h.n1
  unfold M.f102
  simp only [Vd.idxT hx, f148_eq h (show 0 ≤ (tn r x).2.2.2.1 by omega) (show (tn r x).2.2.2.1 < (r.2.2.2.1.length : Int) by omega) (show (0 : Int) ≤ 0 by omega) (show (0 : Int) < (r.2.2.2.1.length : Int) by omega), Option.bind_eq_bind, Option.bind_some]
  rw [← h.enL hx]; rfl
theorem f149_eq {x y : Int} (hx : inR r x = true) (hy : inR r y = true) : M.f149 r x y = some (meI r x y, (tn r x).2.2.2.1 == (tn r y).2.1) := by
  have ht := turnB_iff.1 (h.turn hx)
  have hu := turnB_iff.1 (h.turn hy)
  unfold M.f149
  simp only [Vd.idxT hx, Vd.idxT hy, f148_eq h (show 0 ≤ (tn r x).2.2.2.1 by omega) (show (tn r x).2.2.2.1 < (r.2.2.2.1.length : Int) by omega) (show 0 ≤ (tn r y).2.1 by omega) (show (tn r y).2.1 < (r.2.2.2.1.length : Int) by omega), Option.bind_eq_bind, Option.bind_some]
  rw [← h.meL hx hy]
theorem f95_eq {x y : Int} (hx : inR r x = true) (hy : inR r y = true) : M.f95 r x y = some (foB r x y) := by
  unfold M.f95 foB
  rw [guardO_some (fun _ => Vd.idxT hx), Option.bind_eq_bind, Option.bind_some, guardO_some (fun _ => Vd.idxT hy), Option.bind_some]
  by_cases e : x = y
  · subst e; simp [guardO]
  · have e1 : (x != y) = true := by simpa using e
    simp only [e1, if_true, Bool.true_and]
    cases e2 : (tn r x).1 == (tn r y).1 with
    | false => simp [guardO]
    | true =>
      simp only [guardO, f149_eq h hx hy, M.f93, Bool.true_and]
      rfl
theorem f83_eq {x : Int} (hx : inR r x = true) : M.f83 r x = some (decide (bgI r x ≤ 0)) := by
  have ht := turnB_iff.1 (h.turn hx)
  have := h.n1
  unfold M.f83
  have e := Vd.idxA (r := r) (a := 0) (by omega) (by omega)
  have e2 := h.idxB (a := 0) (b := (tn r x).2.1) (by omega) (by omega) (by omega) (by omega)
  simp only [Vd.idxT hx, e, e2, Option.bind_eq_bind, Option.bind_some]
  rw [← h.bgL hx]; rfl
theorem f98_eq {x : Int} (hx : inR r x = true) : M.f98 r x = some (decide (enI r x ≤ 0)) := by
  have ht := turnB_iff.1 (h.turn hx)
  have := h.n1
  unfold M.f98
  have e := Vd.idxA (r := r) (a := (tn r x).2.2.2.1) (by omega) (by omega)
  have e2 := h.idxB (a := (tn r x).2.2.2.1) (b := 0) (by omega) (by omega) (by omega) (by omega)
  simp only [Vd.idxT hx, e, e2, Option.bind_eq_bind, Option.bind_some]
  rw [← h.enL hx]; rfl
theorem f84_eq {x y : Int} (hx : inR r x = true) (hy : inR r y = true) : M.f84 r x y = some (foB r x y) := by
  have ht := turnB_iff.1 (h.turn hx)
  have hu := turnB_iff.1 (h.turn hy)
  unfold M.f84 foB
  have e := Vd.idxA (r := r) (a := (tn r x).2.2.2.1) (by omega) (by omega)
  have e2 := h.idxB (a := (tn r x).2.2.2.1) (b := (tn r y).2.1) (by omega) (by omega) (by omega) (by omega)
  simp only [Vd.idxT hx, Vd.idxT hy, Option.bind_eq_bind, Option.bind_some]
  cases q : ((x != y) && ((tn r x).1 == (tn r y).1)) with
  | false => simp [guardO]
  | true =>
    simp only [guardO, e, e2, Option.bind_some, Bool.true_and]
    rw [← h.meL hx hy]
end
theorem f124_eq (r : S_api_Roster) (x : Int) : M.f124 r x = some (inR r x) := rfl

/-! ### the questions -/
def begV (r : S_api_Roster) (x : Int) : Bool × Int := if vldB r = true then (if inR r x = true then (decide (bgI r x ≤ 0), 0) else (false, 1)) else (false, 70)
def endV (r : S_api_Roster) (x : Int) : Bool × Int := if vldB r = true then (if inR r x = true then (decide (enI r x ≤ 0), 0) else (false, 1)) else (false, 70)
def metV (r : S_api_Roster) (x y : Int) : Bool × Int := if vldB r = true then (if (inR r x && inR r y) = true then (foB r x y, 0) else (false, 1)) else (false, 70)
theorem f36_eq (r : S_api_Roster) (x : Int) : M.f36 r x = some (begV r x) := by
  unfold M.f36 begV
  rw [f85_eq (by simp)]
  simp only [Option.bind_eq_bind, Option.bind_some, List.all_cons, List.all_nil, Bool.and_true]
  cases hv : vldB r with
  | false => rfl
  | true =>
    cases hx : inR r x with
    | false => rfl
    | true => simp [f92_eq ⟨hv⟩ hx, M.f93]
theorem f37_eq (r : S_api_Roster) (x : Int) : M.f37 r x = some (endV r x) := by
  unfold M.f37 endV
  rw [f85_eq (by simp)]
  simp only [Option.bind_eq_bind, Option.bind_some, List.all_cons, List.all_nil, Bool.and_true]
  cases hv : vldB r with
  | false => rfl
  | true =>
    cases hx : inR r x with
    | false => rfl
    | true => simp [f102_eq ⟨hv⟩ hx, M.f93]
theorem f38_eq (r : S_api_Roster) (x y : Int) : M.f38 r x y = some (metV r x y) := by
  unfold M.f38 metV
  rw [f85_eq (by simp)]
  simp only [Option.bind_eq_bind, Option.bind_some, List.all_cons, List.all_nil, Bool.and_true]
  cases hv : vldB r with
  | false => rfl
  | true =>
    cases hx : inR r x with
    | false => rfl
    | true =>
      cases hy : inR r y with
      | false => rfl
      | true => simp [f95_eq ⟨hv⟩ hx hy]
section
variable {fuel : Nat} (hf : 32 < fuel)
include hf
theorem f49_eq (r : S_api_Roster) (x : Int) : M.f49 fuel r x = some (begV r x) := by
  unfold M.f49 begV
  rw [f33_eq hf]
  simp only [Option.bind_eq_bind, Option.bind_some, f124_eq]
  cases hv : vldB r with
  | false => rfl
  | true =>
    cases hx : inR r x with
    | false => rfl
    | true => simp [f83_eq ⟨hv⟩ hx]
theorem f50_eq (r : S_api_Roster) (x : Int) : M.f50 fuel r x = some (endV r x) := by
  unfold M.f50 endV
  rw [f33_eq hf]
  simp only [Option.bind_eq_bind, Option.bind_some, f124_eq]
  cases hv : vldB r with
  | false => rfl
  | true =>
    cases hx : inR r x with
    | false => rfl
    | true => simp [f98_eq ⟨hv⟩ hx]
theorem f51_eq (r : S_api_Roster) (x y : Int) : M.f51 fuel r x y = some (metV r x y) := by
  unfold M.f51 metV
  rw [f33_eq hf]
  simp only [Option.bind_eq_bind, Option.bind_some, f124_eq]
  cases hv : vldB r with
  | false => rfl
  | true =>
    cases hx : inR r x with
    | false => rfl
    | true =>
      cases hy : inR r y with
      | false => rfl
      | true => simp [guardO, f84_eq ⟨hv⟩ hx hy]
end
end Go.Proofs.YthogdhepjcomjaaGreatDoor
