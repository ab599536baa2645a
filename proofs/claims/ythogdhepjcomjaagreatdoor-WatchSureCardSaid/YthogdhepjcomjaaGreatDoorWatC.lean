/-
  What is proved: the specification's test of rosters; that a turn begins, meets and ends; who guards; what turns cost.
-/
import Derived.Test.YthogdhepjcomjaaGreatDoorWatB
namespace Go.Proofs.YthogdhepjcomjaaGreatDoor
open Go Go.Proofs.YthogdhepjcomjaaGreatDoor.Wh

theorem f116_eq (t : S_api_Turn) : M.f116 t = some (decide (0 ≤ t.1 ∧ t.1 < 8 ∧ 0 ≤ t.2.1 ∧ t.2.1 < 8 ∧ 0 ≤ t.2.2.2.1 ∧ t.2.2.2.1 < 8 ∧ 0 ≤ t.2.2.1 ∧ t.2.2.1 ≤ 16777216 ∧ 0 ≤ t.2.2.2.2.1 ∧ t.2.2.2.2.1 ≤ 16777216 ∧ 0 ≤ t.2.2.2.2.2 ∧ t.2.2.2.2.2 ≤ 10000)) := by
  unfold M.f116
  congr 1
  apply Bool.eq_iff_iff.2
  simp only [Bool.and_eq_true, decide_eq_true_eq]
  omega
theorem lt_dec {j n : Nat} (h : j < n) : decide ((j : Int) < (n : Int)) = true := by simpa using h
theorem lt_dec_self {n : Nat} : decide ((n : Int) < (n : Int)) = false := by simp
theorem all_ite3 {n : Nat} {p : Nat → Bool} {α : Type} {x y : α} : (if (List.range n).all p = true then x else y) = (if (List.range n).all p = true then x else y) := rfl
/-- The specification's test of all three ways. -/
theorem f117_eq {fuel : Nat} {r : S_api_Roster} (hf : 8 < fuel) (hn : r.2.2.2.1.length ≤ 8) (hr : rowsB r = true) : M.f117 fuel r.2.2.2.1 = some (trB r.2.2.2.1.length (ahd r)) := by
  have hr' := rowsB_iff.1 hr
  have hi : ∀ a b : Nat, a < r.2.2.2.1.length → b < r.2.2.2.1.length → idx (r.2.2.2.1.getD a []) (b : Int) = some (ahd r a b) := fun a b ha hb => idx_getD (by rw [(hr' a ha).1]; exact hb)
  unfold M.f117 trB
  have hq : ∀ (q : Bool), (if q = true then (Sum.inl () : Unit ⊕ Bool) else .inr false) = if q = true then .inl () else .inr false := fun _ => rfl
  refine bnd (loopM_test (ρ := Unit ⊕ Bool) (N := r.2.2.2.1.length) (fun a : Nat => (a : Int)) (fun a => (List.range r.2.2.2.1.length).all fun b => (List.range r.2.2.2.1.length).all fun c => decide (ahd r a c ≤ ahd r a b + ahd r b c)) (.inr false) (.inl ()) rfl (by omega) (fun a ha _ => ?_) (by simp [lt_dec_self])) ?_
  · simp only [lt_dec ha, if_true]
    refine bnd (loopM_test (ρ := Unit ⊕ Bool) (N := r.2.2.2.1.length) (fun b : Nat => (b : Int)) (fun b => (List.range r.2.2.2.1.length).all fun c => decide (ahd r a c ≤ ahd r a b + ahd r b c)) (.inr false) (.inl ()) rfl (by omega) (fun b hb _ => ?_) (by simp [lt_dec_self])) ?_
    · simp only [lt_dec hb, if_true]
      refine bnd (loopM_test (ρ := Unit ⊕ Bool) (N := r.2.2.2.1.length) (fun c : Nat => (c : Int)) (fun c => decide (ahd r a c ≤ ahd r a b + ahd r b c)) (.inr false) (.inl ()) rfl (by omega) (fun c hc _ => ?_) (by simp [lt_dec_self])) ?_
      · have h1 := (hr' a ha).2.1 b hb
        have h2 := (hr' b hb).2.1 c hc
        simp only [lt_dec hc, if_true, idx_getD (d := ([] : List Int)) ha, idx_getD (d := ([] : List Int)) hb, hi a b ha hb, hi a c ha hc, hi b c hb hc, Option.bind_eq_bind, Option.bind_some, wr_succ (show c < 4294967296 by omega), wr_id (show -9223372036854775808 ≤ ahd r a b + ahd r b c by omega) (by omega)]
        by_cases h : ahd r a c ≤ ahd r a b + ahd r b c
        · rw [if_neg (by simpa using h), if_pos (by simpa using h)]
        · rw [if_pos (by simpa using h), if_neg (by simpa using h)]
      · generalize (List.range r.2.2.2.1.length).all (fun c => decide (ahd r a c ≤ ahd r a b + ahd r b c)) = q
        rw [wr_succ (by omega)]
        cases q <;> rfl
    · generalize ((List.range r.2.2.2.1.length).all fun b => (List.range r.2.2.2.1.length).all fun c => decide (ahd r a c ≤ ahd r a b + ahd r b c)) = q
      rw [wr_succ (by omega)]
      cases q <;> rfl
  · generalize ((List.range r.2.2.2.1.length).all fun a => (List.range r.2.2.2.1.length).all fun b => (List.range r.2.2.2.1.length).all fun c => decide (ahd r a c ≤ ahd r a b + ahd r b c)) = q
    cases q <;> rfl
theorem f33_eq {fuel : Nat} (hf : 32 < fuel) (r : S_api_Roster) : M.f33 fuel r = some (vldB r) := by
  unfold M.f33
  split
  · rename_i h
    have : hdB r = false := by
      rw [← Bool.not_eq_true]; intro hd
      rw [hdB_iff] at hd
      simp only [Bool.or_eq_true, decide_eq_true_eq] at h
      omega
    simp [vldB, this]
  · rename_i h
    have hd : hdB r = true := by
      rw [hdB_iff]
      simp only [Bool.or_eq_true, decide_eq_true_eq] at h
      omega
    have hd' := hdB_iff.1 hd
    have h8 : r.2.2.2.1.length ≤ 8 := by omega
    refine bnd (loopM_test (ρ := Unit ⊕ Bool) (N := r.2.2.2.1.length) (fun j : Nat => (j : Int)) (fun j => rowB r.2.2.2.1.length j (r.2.2.2.1.getD j [])) (.inr false) (.inl ()) rfl (by omega) (fun j hj _ => ?_) (by simp [lt_dec_self])) ?_
    · simp only [lt_dec hj, if_true, idx_getD (d := ([] : List Int)) hj, Option.bind_eq_bind, Option.bind_some]
      generalize hl : r.2.2.2.1.getD j [] = l
      by_cases hlen : l.length = r.2.2.2.1.length
      · have e0 : ((l.length : Int) != (r.2.2.2.1.length : Int)) = false := by rw [hlen]; simp
        have hj' : j < l.length := by omega
        simp only [e0, Bool.not_false, guardO, Option.bind_some, idx_getD (d := (0 : Int)) hj', Bool.false_or]
        by_cases hz : l.getD j 0 = 0
        · rw [hz]
          simp only [bne_self_eq_false, Bool.false_eq_true, if_false]
          refine bnd (loopM_test (ρ := Unit ⊕ Bool) (N := r.2.2.2.1.length) (fun b : Nat => (b : Int)) (fun b => decide (-1048576 ≤ l.getD b 0) && decide (l.getD b 0 ≤ 1048576)) (.inr false) (.inl ()) rfl (by omega) (fun b hb _ => ?_) (by simp [lt_dec_self])) ?_
          · simp only [lt_dec hb, if_true, idx_getD (d := (0 : Int)) (show b < l.length by omega), Option.bind_some, wr_succ (show b < 4294967296 by omega)]
            have hix : idx l (b : Int) = some (l.getD b 0) := idx_getD (by omega)
            generalize l.getD b 0 = z at hix ⊢
            by_cases h1 : z < -1048576
            · have : ¬ -1048576 ≤ z := by omega
              simp [h1, this]
            · have : -1048576 ≤ z := by omega
              by_cases h2 : 1048576 < z
              · have h3 : ¬ z ≤ 1048576 := by omega
                simp [h1, h2, h3, this, hix]
              · have h3 : z ≤ 1048576 := by omega
                simp [h1, h2, h3, this, hix]
          · have e : rowB r.2.2.2.1.length j l = (List.range r.2.2.2.1.length).all fun b => decide (-1048576 ≤ l.getD b 0) && decide (l.getD b 0 ≤ 1048576) := by
              apply Bool.eq_iff_iff.2
              rw [rowB_iff]
              simp only [List.all_eq_true, List.mem_range, Bool.and_eq_true, decide_eq_true_eq]
              exact ⟨fun h b hb => ⟨(h.2 b hb).1, (h.2 b hb).2.1⟩, fun h => ⟨hlen, fun b hb => ⟨(h b hb).1, (h b hb).2, fun e => by rw [← e]; exact hz⟩⟩⟩
            rw [e, wr_succ (by omega)]
            generalize ((List.range r.2.2.2.1.length).all fun b => decide (-1048576 ≤ l.getD b 0) && decide (l.getD b 0 ≤ 1048576)) = q
            cases q <;> rfl
        · have e1 : (l.getD j 0 != 0) = true := by simpa using hz
          rw [if_pos e1]
          have : rowB r.2.2.2.1.length j l = false := by
            rw [← Bool.not_eq_true]; intro h
            exact hz (((rowB_iff.1 h).2 j hj).2.2 rfl)
          rw [this]; rfl
      · have e0 : ((l.length : Int) != (r.2.2.2.1.length : Int)) = true := by simp; omega
        simp only [e0, Bool.not_true, guardO, Option.bind_some, Bool.true_or, if_true]
        have : rowB r.2.2.2.1.length j l = false := by unfold rowB; simp [hlen]
        rw [this]; rfl
    · cases hr : ((List.range r.2.2.2.1.length).all fun j => rowB r.2.2.2.1.length j (r.2.2.2.1.getD j [])) with
      | false =>
        have : rowsB r = false := hr
        simp [vldB, hd, this, sumE]
      | true =>
        have hr : rowsB r = true := hr
        simp only [if_true, sumE]
        refine bnd (loopM_all (ρ := Unit ⊕ Bool) r.2.2.2.2 (turnB r.1 (r.2.2.2.1.length : Int)) (.inr false) (.inl ()) fuel (by omega) _ (fun i x hx => ?_) (by simp [lt_dec_self])) ?_
        · have hi := (List.getElem?_eq_some_iff.1 hx).1
          simp only [lt_dec hi, if_true, idx_nat, hx, Option.bind_eq_bind, Option.bind_some, f116_eq, wr_succ (show i < 4294967296 by omega)]
          by_cases h1 : r.1 ≤ x.1
          · have : turnB r.1 (r.2.2.2.1.length : Int) x = false := by unfold turnB; rw [decide_eq_false_iff_not]; omega
            simp [h1, this, guardO]
          by_cases h2 : (r.2.2.2.1.length : Int) ≤ x.2.1
          · have : turnB r.1 (r.2.2.2.1.length : Int) x = false := by unfold turnB; rw [decide_eq_false_iff_not]; omega
            simp [h1, h2, this, guardO]
          by_cases h3 : (r.2.2.2.1.length : Int) ≤ x.2.2.2.1
          · have : turnB r.1 (r.2.2.2.1.length : Int) x = false := by unfold turnB; rw [decide_eq_false_iff_not]; omega
            simp [h1, h2, h3, this, guardO]
          have e : turnB r.1 (r.2.2.2.1.length : Int) x = decide (0 ≤ x.1 ∧ x.1 < 8 ∧ 0 ≤ x.2.1 ∧ x.2.1 < 8 ∧ 0 ≤ x.2.2.2.1 ∧ x.2.2.2.1 < 8 ∧ 0 ≤ x.2.2.1 ∧ x.2.2.1 ≤ 16777216 ∧ 0 ≤ x.2.2.2.2.1 ∧ x.2.2.2.2.1 ≤ 16777216 ∧ 0 ≤ x.2.2.2.2.2 ∧ x.2.2.2.2.2 ≤ 10000) := by
            unfold turnB
            apply Bool.eq_iff_iff.2
            simp only [decide_eq_true_eq]
            omega
          rw [e]
          simp only [decide_eq_false h1, decide_eq_false h2, decide_eq_false h3, guardO, Bool.or_false, Bool.not_false, Option.bind_some, Bool.false_or]
          have key : ∀ q : Bool, (if (!q) = true then (some (.leave (.inr false)) : Option (Out Int (Unit ⊕ Bool))) else some (.again ((i + 1 : Nat) : Int))) = some (if q = true then .again ((i + 1 : Nat) : Int) else .leave (.inr false)) := by
            intro q; cases q <;> rfl
          exact key _
        · have h4 : r.2.2.2.2.all (turnB r.1 (r.2.2.2.1.length : Int)) = turnsB r := rfl
          rw [h4]
          cases h5 : turnsB r with
          | false => simp [vldB, h5, sumE]
          | true =>
            simp only [if_true, sumE, f117_eq (show 8 < fuel by omega) h8 hr, Option.bind_eq_bind, Option.bind_some]
            simp [vldB, hd, hr, h5]
theorem f48_eq {fuel : Nat} (hf : 32 < fuel) (r : S_api_Roster) : M.f48 fuel r = some (if vldB r = true then 0 else 70) := by
  unfold M.f48
  rw [f33_eq hf]
  simp only [Option.bind_eq_bind, Option.bind_some]
  cases vldB r <;> rfl
end Go.Proofs.YthogdhepjcomjaaGreatDoor
