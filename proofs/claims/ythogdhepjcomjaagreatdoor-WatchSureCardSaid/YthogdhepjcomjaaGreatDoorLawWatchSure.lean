/-
  What is proved: for all rosters, turns and numbers the model of WatchSure returns true.
-/
import Derived.Test.YthogdhepjcomjaaGreatDoorWatF
import Derived.Test.YthogdhepjcomjaaGreatDoorModelF
namespace Go.Proofs.YthogdhepjcomjaaGreatDoor
open Go Go.Proofs.YthogdhepjcomjaaGreatDoor.Wh

/-- What all clocks show when one shows a number. -/
def toldF (r : S_api_Roster) (c : Nat) (n : Int) (most : Bool) (k : Nat) : Int := if most = true then n + ahd r k c else n - ahd r c k
def toldL (r : S_api_Roster) (c : Nat) (n : Int) (most : Bool) : List Int := (List.range r.2.2.2.1.length).map (toldF r c n most)
theorem toldL_get {r : S_api_Roster} {c : Nat} {n : Int} {b : Bool} {k : Nat} (hk : k < r.2.2.2.1.length) : (toldL r c n b).getD k 0 = toldF r c n b k := by
  unfold toldL
  rw [List.getD_eq_getElem?_getD, List.getElem?_map, List.getElem?_range hk]; rfl
theorem toldL_len {r : S_api_Roster} {c : Nat} {n : Int} {b : Bool} : (toldL r c n b).length = r.2.2.2.1.length := by unfold toldL; simp
section
variable {r : S_api_Roster} (h : Vd r)
include h
theorem f39_eq {c n : Int} {b : Bool} (h0 : 0 ≤ c) (h1 : c < (r.2.2.2.1.length : Int)) (hn : 0 ≤ n ∧ n ≤ 16777216) : M.f39 r c n b = some (toldL r c.toNat n b) := by
  obtain ⟨k, rfl⟩ : ∃ k : Nat, c = (k : Int) := ⟨c.toNat, by omega⟩
  have hk : k < r.2.2.2.1.length := by omega
  have h8 := h.n8
  unfold M.f39
  refine bnd (forS_st (fun j => (List.range j).map (toldF r k n b)) rfl (by omega) fun j hj => ?_) rfl
  have b1 := h.bnd hj hk
  have b2 := h.bnd hk hj
  have e1 : idx (r.2.2.2.1.getD j []) (k : Int) = some (ahd r j k) := idx_getD (by rw [h.row hj]; exact hk)
  have e2 : idx (r.2.2.2.1.getD k []) (j : Int) = some (ahd r k j) := idx_getD (by rw [h.row hk]; exact hj)
  rw [List.range_succ, List.map_append]
  cases b with
  | true =>
    simp only [if_true, idx_getD (d := ([] : List Int)) hj, e1, Option.bind_eq_bind, Option.bind_some, wr_id (show -9223372036854775808 ≤ n + ahd r j k by omega) (by omega), app_one (show ((List.range j).map (toldF r k n true)).length ≤ 4294967295 by simp; omega)]
    rfl
  | false =>
    simp only [Bool.false_eq_true, if_false, idx_getD (d := ([] : List Int)) hk, e2, Option.bind_eq_bind, Option.bind_some, wr_id (show -9223372036854775808 ≤ n - ahd r k j by omega) (by omega), app_one (show ((List.range j).map (toldF r k n false)).length ≤ 4294967295 by simp; omega)]
    rfl
/-- They are moments. -/
theorem told_who {c : Nat} {n : Int} {b : Bool} (hc : c < r.2.2.2.1.length) (hn : 0 ≤ n ∧ n ≤ 16777216) : (whoV r (toldL r c n b)).2 = 0 := by
  have hz : shoE r (toldL r c n b) = 0 := by
    unfold shoE
    have e1 : (toldL r c n b).all inS = true := by
      unfold toldL
      rw [List.all_map, List.all_eq_true]
      intro k hk
      have hk := List.mem_range.1 hk
      have b1 := h.bnd hk hc
      have b2 := h.bnd hc hk
      show inS (toldF r c n b k) = true
      unfold inS toldF
      rw [Bool.and_eq_true, decide_eq_true_eq, decide_eq_true_eq]
      cases b <;> simp <;> omega
    have e2 : momB r (toldL r c n b) = true := by
      unfold momB
      simp only [List.all_eq_true, List.mem_range, decide_eq_true_eq]
      intro x hx y hy
      rw [toldL_get hx, toldL_get hy]
      unfold toldF
      cases b with
      | true => have := h.way hx hy hc; simp; omega
      | false => have := h.way hc hx hy; simp; omega
    rw [e1, e2]
    simp [toldL_len]
  unfold whoV
  rw [h.h, hz]
  rfl
end
theorem law_WatchSure (p0 : S_api_Roster) (p1 p2 : Int) (p3 : List Int) : ∃ fuel, M.f6 fuel p0 p1 p2 p3 = some true := by
  refine ⟨1000, ?_⟩
  unfold M.f6
  rw [sane_eq, f33_eq (show 32 < 1000 by omega)]
  simp only [Option.bind_eq_bind, Option.bind_some, Bool.not_true, Bool.false_eq_true, if_false, f17_eq (show [p3].length ≤ 4294967296 by simp)]
  cases hv : vldB p0 with
  | false => rfl
  | true =>
    have h : Vd p0 := ⟨hv⟩
    simp only [Bool.not_true, Bool.not_false, guardO_t, Option.bind_some, Bool.false_or]
    split
    · rfl
    rename_i hc
    simp only [Bool.or_eq_true, Bool.not_eq_true', decide_eq_true_eq] at hc
    have hfew : fewB p0 [p3] = true := by
      cases q : fewB p0 [p3] with
      | true => rfl
      | false => exact absurd (.inl (.inl (.inl (.inl q)))) hc
    have hl3 : p3.length ≤ 100 := by
      unfold fewB at hfew
      simp only [List.all_cons, List.all_nil, Bool.and_true, Bool.and_eq_true, decide_eq_true_eq] at hfew
      omega
    have ha : inR p0 p1 = true := inR_iff.2 ⟨by omega, by omega⟩
    have hb : inR p0 p2 = true := inR_iff.2 ⟨by omega, by omega⟩
    have tx := turnB_iff.1 (h.turn ha)
    have ty := turnB_iff.1 (h.turn hb)
    have htime := h.time
    have hn1 := h.n1
    have hn8 := h.n8
    have ew : wr (p0.2.2.1 - 1) = p0.2.2.1 - 1 := wr_id (by omega) (by omega)
    simp only [Vd.idxT ha, Vd.idxT hb, f36_eq, f37_eq, f38_eq, begV, endV, metV, hv, ha, hb, if_true, Bool.and_self, Option.bind_some, bne_self_eq_false, Bool.or_false, Bool.false_eq_true, if_false,
      f39_eq h (show (0 : Int) ≤ 0 by omega) (show (0 : Int) < (p0.2.2.2.1.length : Int) by omega) (show 0 ≤ p0.2.1 ∧ p0.2.1 ≤ 16777216 by omega),
      f39_eq h (show 0 ≤ (tn p0 p1).2.2.2.1 by omega) (show (tn p0 p1).2.2.2.1 < (p0.2.2.2.1.length : Int) by omega) (show 0 ≤ (tn p0 p1).2.2.2.2.1 ∧ (tn p0 p1).2.2.2.2.1 ≤ 16777216 by omega), ew,
      f39_eq h (show (0 : Int) ≤ 0 by omega) (show (0 : Int) < (p0.2.2.2.1.length : Int) by omega) (show 0 ≤ p0.2.2.1 - 1 ∧ p0.2.2.1 - 1 ≤ 16777216 by omega)]
    generalize hF : toldL p0 (0 : Int).toNat p0.2.1 false = first
    generalize hX : toldL p0 (tn p0 p1).2.2.2.1.toNat (tn p0 p1).2.2.2.2.1 false = next
    generalize hL : toldL p0 (0 : Int).toNat (p0.2.2.1 - 1) true = last
    have w1 : (whoV p0 first).2 = 0 := by rw [← hF]; exact told_who h (by omega) (by omega)
    have w2 : (whoV p0 next).2 = 0 := by rw [← hX]; exact told_who h (by omega) (by omega)
    have w3 : (whoV p0 last).2 = 0 := by rw [← hL]; exact told_who h (by omega) (by omega)
    have lens : first.length ≤ 4294967296 ∧ next.length ≤ 4294967296 ∧ last.length ≤ 4294967296 := by
      rw [← hF, ← hX, ← hL]
      simp only [toldL_len]; omega
    refine bnd (forM_all [first, next, last] (by simp) (fun s => (whoV p0 s).2 == 0) false _ fun i s hs => ?_) ?_
    · have hm := List.mem_of_getElem? hs
      have hsl : s.length ≤ 4294967296 := by
        simp only [List.mem_cons, List.not_mem_nil, or_false] at hm
        rcases hm with rfl | rfl | rfl
        · exact lens.1
        · exact lens.2.1
        · exact lens.2.2
      simp only [idx_nat, hs, Option.bind_some, f40_eq hsl]
      by_cases q : (whoV p0 s).2 = 0 <;> simp [q]
    · have hall : ([first, next, last].all fun s => (whoV p0 s).2 == 0) = true := by simp [w1, w2, w3]
      rw [if_pos hall]
      simp only [Out.elim]
      have g1 : idx first (tn p0 p1).2.1 = some (toldF p0 0 p0.2.1 false (tn p0 p1).2.1.toNat) := by
        rw [idx_getI (d := (0 : Int)) (by omega) (by rw [← hF, toldL_len]; omega), ← hF, toldL_get (by omega)]; rfl
      have g2 : idx last (tn p0 p1).2.2.2.1 = some (toldF p0 0 (p0.2.2.1 - 1) true (tn p0 p1).2.2.2.1.toNat) := by
        rw [idx_getI (d := (0 : Int)) (by omega) (by rw [← hL, toldL_len]; omega), ← hL, toldL_get (by omega)]; rfl
      have g3 : idx next (tn p0 p2).2.1 = some (toldF p0 (tn p0 p1).2.2.2.1.toNat (tn p0 p1).2.2.2.2.1 false (tn p0 p2).2.1.toNat) := by
        rw [idx_getI (d := (0 : Int)) (by omega) (by rw [← hX, toldL_len]; omega), ← hX, toldL_get (by omega)]
      rw [g1]
      simp only [Option.bind_some]
      have c1 : (decide (bgI p0 p1 ≤ 0) == decide (toldF p0 0 p0.2.1 false (tn p0 p1).2.1.toNat < (tn p0 p1).2.2.1)) = false := by
        rw [beq_eq_false_iff_ne]
        intro e
        have := decide_eq_decide.1 e
        unfold bgI toldF at this
        simp only [Bool.false_eq_true, if_false] at this
        omega
      have c2 : (decide (enI p0 p1 ≤ 0) == decide ((tn p0 p1).2.2.2.2.1 ≤ toldF p0 0 (p0.2.2.1 - 1) true (tn p0 p1).2.2.2.1.toNat)) = false := by
        rw [beq_eq_false_iff_ne]
        intro e
        have := decide_eq_decide.1 e
        unfold enI toldF at this
        simp only [if_true] at this
        omega
      simp only [c1, Bool.not_false, guardO_t, g2, Option.bind_some, c2, Bool.or_self, Bool.false_eq_true, if_false]
      rw [guardO_some (fun _ => g3)]
      simp only [Option.bind_some]
      have c3 : ((((p1 != p2) && ((tn p0 p1).1 == (tn p0 p2).1)) && (foB p0 p1 p2 == (decide ((if ((p1 != p2) && ((tn p0 p1).1 == (tn p0 p2).1)) = true then toldF p0 (tn p0 p1).2.2.2.1.toNat (tn p0 p1).2.2.2.2.1 false (tn p0 p2).2.1.toNat else default) < (tn p0 p2).2.2.1)))) || (((p1 == p2) || ((tn p0 p1).1 != (tn p0 p2).1)) && foB p0 p1 p2)) = false := by
        unfold foB
        cases q1 : (p1 != p2) with
        | false => have : (p1 == p2) = true := by simpa [bne] using q1
                   simp [this]
        | true =>
          have q1' : (p1 == p2) = false := by simpa [bne] using q1
          cases q2 : ((tn p0 p1).1 == (tn p0 p2).1) with
          | false => simp [q1', bne, q2]
          | true =>
            have : (decide (meI p0 p1 p2 ≤ 0) == decide (toldF p0 (tn p0 p1).2.2.2.1.toNat (tn p0 p1).2.2.2.2.1 false (tn p0 p2).2.1.toNat < (tn p0 p2).2.2.1)) = false := by
              rw [beq_eq_false_iff_ne]
              intro e
              have := decide_eq_decide.1 e
              unfold meI toldF at this
              simp only [Bool.false_eq_true, if_false] at this
              omega
            simp [q1', bne, q2, this]
      rw [c3]
      simp only [Bool.false_eq_true, if_false]
      rw [f40_eq (show p3.length ≤ 4294967296 by omega)]
      simp only [Option.bind_some]
      split
      · rfl
      rename_i hw
      have hz : shoE p0 p3 = 0 := by
        have : (whoV p0 p3).2 = 0 := by simpa using hw
        unfold whoV at this
        rw [hv] at this
        simp only [if_true] at this
        split at this
        · assumption
        · exact this
      obtain ⟨z1, z2, z3⟩ := shoE_zero hz
      have hmom : ∀ a b : Nat, a < p0.2.2.2.1.length → b < p0.2.2.2.1.length → p3.getD a 0 - p3.getD b 0 ≤ ahd p0 a b := by
        unfold momB at z3
        simp only [List.all_eq_true, List.mem_range, decide_eq_true_eq] at z3
        exact fun a b ha hb => z3 a ha b hb
      have i0 : idx p3 0 = some (p3.getD 0 0) := idx_getD (j := 0) (by omega)
      have i1 : idx p3 (tn p0 p1).2.1 = some (p3.getD (tn p0 p1).2.1.toNat 0) := idx_getI (by omega) (by omega)
      have i2 : idx p3 (tn p0 p1).2.2.2.1 = some (p3.getD (tn p0 p1).2.2.2.1.toNat 0) := idx_getI (by omega) (by omega)
      have i3 : idx p3 (tn p0 p2).2.1 = some (p3.getD (tn p0 p2).2.1.toNat 0) := idx_getI (by omega) (by omega)
      have m1 := hmom 0 (tn p0 p1).2.1.toNat (by omega) (by omega)
      have m2 := hmom (tn p0 p1).2.2.2.1.toNat 0 (by omega) (by omega)
      have m3 := hmom (tn p0 p1).2.2.2.1.toNat (tn p0 p2).2.1.toNat (by omega) (by omega)
      have k1 : (decide (bgI p0 p1 ≤ 0) && decide (p0.2.1 ≤ p3.getD 0 0) && decide (p3.getD (tn p0 p1).2.1.toNat 0 < (tn p0 p1).2.2.1)) = false := by
        rw [← Bool.not_eq_true]
        simp only [Bool.and_eq_true, decide_eq_true_eq]
        unfold bgI
        omega
      have k2 : (decide (enI p0 p1 ≤ 0) && decide (p3.getD 0 0 < p0.2.2.1) && decide ((tn p0 p1).2.2.2.2.1 ≤ p3.getD (tn p0 p1).2.2.2.1.toNat 0)) = false := by
        rw [← Bool.not_eq_true]
        simp only [Bool.and_eq_true, decide_eq_true_eq]
        unfold enI
        omega
      have k3 : (foB p0 p1 p2 && decide ((tn p0 p1).2.2.2.2.1 ≤ p3.getD (tn p0 p1).2.2.2.1.toNat 0) && decide (p3.getD (tn p0 p2).2.1.toNat 0 < (tn p0 p2).2.2.1)) = false := by
        rw [← Bool.not_eq_true]
        unfold foB
        simp only [Bool.and_eq_true, decide_eq_true_eq]
        unfold meI
        omega
      rw [i0, i1, i2, i3]
      generalize decide (bgI p0 p1 ≤ 0) = B1 at k1 ⊢
      generalize decide (enI p0 p1 ≤ 0) = B2 at k2 ⊢
      generalize foB p0 p1 p2 = B3 at k3 ⊢
      generalize p3.getD 0 0 = s0 at k1 k2 ⊢
      generalize p3.getD (tn p0 p1).2.1.toNat 0 = s1 at k1 ⊢
      generalize p3.getD (tn p0 p1).2.2.2.1.toNat 0 = s2 at k2 k3 ⊢
      generalize p3.getD (tn p0 p2).2.1.toNat 0 = s3 at k3 ⊢
      cases B1 <;> cases B2 <;> cases B3 <;> cases q1 : decide (p0.2.1 ≤ s0) <;> cases q2 : decide (s1 < (tn p0 p1).2.2.1) <;> cases q3 : decide (s0 < p0.2.2.1) <;> cases q4 : decide ((tn p0 p1).2.2.2.2.1 ≤ s2) <;> cases q5 : decide (s3 < (tn p0 p2).2.2.1) <;> simp [guardO_t, guardO_f, q1, q2, q3, q4, q5] at k1 k2 k3 ⊢
end Go.Proofs.YthogdhepjcomjaaGreatDoor
