/-
  What is proved: the program's check of rosters and the specification's are one test.
-/
import Derived.Test.YthogdhepjcomjaaGreatDoorWatA
namespace Go.Proofs.YthogdhepjcomjaaGreatDoor
open Go Go.Proofs.YthogdhepjcomjaaGreatDoor.Wh

theorem wr_succ {j : Nat} (h : j < 4294967296) : wr ((j : Int) + 1) = ((j + 1 : Nat) : Int) := by
  rw [wr_id (by omega) (by omega)]; simp
theorem f123_eq (t : S_api_Turn) : M.f123 t = some (decide (0 ≤ t.1 ∧ t.1 ≤ 7 ∧ 0 ≤ t.2.1 ∧ t.2.1 ≤ 7 ∧ 0 ≤ t.2.2.2.1 ∧ t.2.2.2.1 ≤ 7 ∧ 0 ≤ t.2.2.1 ∧ t.2.2.1 ≤ 16777216 ∧ 0 ≤ t.2.2.2.2.1 ∧ t.2.2.2.2.1 ≤ 16777216 ∧ 0 ≤ t.2.2.2.2.2 ∧ t.2.2.2.2.2 ≤ 10000)) := by
  unfold M.f123
  simp only [f99_eq, Option.bind_eq_bind, Option.bind_some, guardO_bool, Option.some.injEq]
  apply Bool.eq_iff_iff.2
  simp only [Bool.and_eq_true, decide_eq_true_eq]
  omega
theorem hdB_iff {r : S_api_Roster} : hdB r = true ↔ 1 ≤ r.1 ∧ r.1 ≤ 8 ∧ 0 ≤ r.2.1 ∧ r.2.1 < r.2.2.1 ∧ r.2.2.1 ≤ 16777216 ∧ 1 ≤ (r.2.2.2.1.length : Int) ∧ (r.2.2.2.1.length : Int) ≤ 8 ∧ (r.2.2.2.2.length : Int) ≤ 24 := by
  unfold hdB; rw [decide_eq_true_eq]
theorem rowB_iff {n j : Nat} {l : List Int} : rowB n j l = true ↔ l.length = n ∧ ∀ b, b < n → -1048576 ≤ l.getD b 0 ∧ l.getD b 0 ≤ 1048576 ∧ (j = b → l.getD b 0 = 0) := by
  unfold rowB
  simp only [Bool.and_eq_true, decide_eq_true_eq, List.all_eq_true, List.mem_range, Bool.or_eq_true]
  refine and_congr Iff.rfl ⟨fun h b hb => ?_, fun h b hb => ?_⟩
  · obtain ⟨⟨h1, h2⟩, h3⟩ := h b hb
    exact ⟨h1, h2, fun e => h3.elim (fun h => absurd e h) id⟩
  · obtain ⟨h1, h2, h3⟩ := h b hb
    refine ⟨⟨h1, h2⟩, ?_⟩
    by_cases e : j = b
    · exact .inr (h3 e)
    · exact .inl e
theorem rowsB_iff {r : S_api_Roster} : rowsB r = true ↔ ∀ a, a < r.2.2.2.1.length → (r.2.2.2.1.getD a []).length = r.2.2.2.1.length ∧ (∀ b, b < r.2.2.2.1.length → -1048576 ≤ ahd r a b ∧ ahd r a b ≤ 1048576) ∧ ahd r a a = 0 := by
  unfold rowsB
  simp only [List.all_eq_true, List.mem_range, rowB_iff]
  refine ⟨fun h a ha => ⟨(h a ha).1, fun b hb => ⟨((h a ha).2 b hb).1, ((h a ha).2 b hb).2.1⟩, ((h a ha).2 a ha).2.2 rfl⟩, fun h a ha => ⟨(h a ha).1, fun b hb => ⟨((h a ha).2.1 b hb).1, ((h a ha).2.1 b hb).2, fun e => by subst e; exact (h a ha).2.2⟩⟩⟩
/-- The rows, by the program. -/
theorem rows_loop {Ah : List (List Int)} (hn : Ah.length ≤ 8) (f : Int → Unit → Option (Out Unit Int))
    (hf : ∀ j : Nat, j < Ah.length → f (j : Int) () = (if ((Ah.getD j []).length : Int) != (Ah.length : Int) then some (.leave 70) else
      (forM (ρ := Int) 0 ((Ah.getD j []).length : Int) (() : Unit) fun i_17 s_19 =>
        (idx (Ah.getD j []) i_17) >>= fun v_23 =>
        (M.f99 v_23 (-1048576) 1048576) >>= fun v_25 =>
        (if ((!v_25) || (((j : Int) == i_17) && (v_23 != 0))) = true then (some (.leave 70)) else (some (.again ())))) >>= fun o_20 => Out.elim o_20 (fun s_19 => some (.again ())) (fun p_27 => some (.leave p_27)))) :
    forM (ρ := Int) 0 (Ah.length : Int) (() : Unit) f = some (if ((List.range Ah.length).all fun j => rowB Ah.length j (Ah.getD j [])) = true then .again () else .leave 70) := by
  refine forM_test (fun j => rowB Ah.length j (Ah.getD j [])) 70 (by omega) fun j hj _ => ?_
  rw [hf j hj]
  generalize Ah.getD j [] = l
  by_cases hlen : l.length = Ah.length
  · have e0 : ((l.length : Int) != (Ah.length : Int)) = false := by rw [hlen]; simp
    rw [e0]
    simp only [Bool.false_eq_true, if_false]
    have h1 := forM_test (ρ := Int) (N := l.length) (f := fun i_17 s_19 =>
        (idx l i_17) >>= fun v_23 =>
        (M.f99 v_23 (-1048576) 1048576) >>= fun v_25 =>
        (if ((!v_25) || (((j : Int) == i_17) && (v_23 != 0))) = true then (some (.leave 70)) else (some (.again ())))) (fun b => decide (-1048576 ≤ l.getD b 0) && decide (l.getD b 0 ≤ 1048576) && (decide (j ≠ b) || decide (l.getD b 0 = 0))) 70 (by omega) (fun b hb _ => by
      simp only [idx_getD (d := (0 : Int)) hb, Option.bind_eq_bind, Option.bind_some, f99_eq]
      generalize l.getD b 0 = z
      split
      · rename_i q
        rw [if_neg]
        simp only [Bool.or_eq_true, Bool.and_eq_true, Bool.not_eq_true', Bool.and_eq_false_iff, decide_eq_false_iff_not, decide_eq_true_eq, beq_iff_eq, bne_iff_ne] at q ⊢
        omega
      · rename_i q
        rw [if_pos]
        simp only [Bool.or_eq_true, Bool.and_eq_true, Bool.not_eq_true', Bool.and_eq_false_iff, decide_eq_false_iff_not, decide_eq_true_eq, beq_iff_eq, bne_iff_ne] at q ⊢
        omega)
    refine bnd h1 ?_
    unfold rowB
    rw [hlen]
    simp only [decide_true, Bool.true_and]
    split <;> rfl
  · have e0 : ((l.length : Int) != (Ah.length : Int)) = true := by simp; omega
    rw [e0]
    have : rowB Ah.length j l = false := by unfold rowB; simp [hlen]
    rw [this]; rfl
theorem f47_eq (r : S_api_Roster) : M.f47 r = some (if vldB r = true then 0 else 70) := by
  unfold M.f47
  simp only [f99_eq, Option.bind_eq_bind, Option.bind_some, guardO_bool]
  split
  · rename_i h
    have : hdB r = false := by
      rw [← Bool.not_eq_true]; intro hd
      rw [hdB_iff] at hd
      simp only [Bool.or_eq_true, Bool.not_eq_true', Bool.and_eq_false_iff, decide_eq_false_iff_not, decide_eq_true_eq, Bool.not_or, Bool.and_eq_true, Bool.not_not, Bool.or_eq_false_iff, Bool.not_eq_false'] at h
      omega
    simp [vldB, this]
  · rename_i h
    have hd : hdB r = true := by
      rw [hdB_iff]
      simp only [Bool.or_eq_true, Bool.not_eq_true', Bool.and_eq_false_iff, decide_eq_false_iff_not, decide_eq_true_eq, Bool.not_or, Bool.and_eq_true, Bool.not_not, Bool.or_eq_false_iff, Bool.not_eq_false'] at h
      omega
    have hd' := hdB_iff.1 hd
    have h8 : r.2.2.2.1.length ≤ 8 := by omega
    refine bnd (rows_loop h8 _ fun j hj => ?_) ?_
    · simp only [idx_getD (d := ([] : List Int)) hj, Option.bind_some]
      rfl
    · cases hr : ((List.range r.2.2.2.1.length).all fun j => rowB r.2.2.2.1.length j (r.2.2.2.1.getD j [])) with
      | false =>
        have : rowsB r = false := hr
        simp [vldB, hd, this, Out.elim]
      | true =>
        have hr : rowsB r = true := hr
        have hr' := rowsB_iff.1 hr
        simp only [if_true, Out.elim, f121_eq h8, Option.bind_some]
        rw [show (fun a b => (r.2.2.2.1.getD a []).getD b 0) = ahd r from rfl, f122_eq h8]
        simp only [Option.bind_some]
        have hc := cls_iff (F := ahd r) h8 (fun a b ha hb => (hr' a ha).2.1 b hb)
        by_cases ht : trB r.2.2.2.1.length (ahd r) = true
        · have e : matV (ahd r) = matV (cls hm r.2.2.2.1.length (ahd r)) := hc.2 ht
          have e0 : (matV (ahd r) != matV (cls hm r.2.2.2.1.length (ahd r))) = false := by rw [← e]; simp
          rw [e0]
          simp only [Bool.false_eq_true, if_false]
          have h1 := forM_all (ρ := Int) r.2.2.2.2 (by omega) (turnB r.1 (r.2.2.2.1.length : Int)) 70 (fun i_32 s_34 =>
            (idx r.2.2.2.2 i_32) >>= fun v_38 =>
            (M.f123 v_38) >>= fun v_40 =>
            (if ((((!v_40) || (decide (r.1 ≤ v_38.1))) || (decide ((r.2.2.2.1.length : Int) ≤ v_38.2.1))) || (decide ((r.2.2.2.1.length : Int) ≤ v_38.2.2.2.1))) = true then (some (.leave 70)) else (some (.again ())))) (fun i x hx => by
              simp only [idx_nat, hx, Option.bind_eq_bind, Option.bind_some, f123_eq]
              unfold turnB
              split
              · rename_i q
                rw [if_neg]
                simp only [Bool.or_eq_true, Bool.not_eq_true', decide_eq_false_iff_not, decide_eq_true_eq] at q ⊢
                omega
              · rename_i q
                rw [if_pos]
                simp only [Bool.or_eq_true, Bool.not_eq_true', decide_eq_false_iff_not, decide_eq_true_eq] at q ⊢
                omega)
          refine bnd h1 ?_
          have : vldB r = turnsB r := by simp [vldB, hd, hr, ht]
          rw [this]
          show _ = some (if r.2.2.2.2.all (turnB r.1 (r.2.2.2.1.length : Int)) = true then 0 else 70)
          cases r.2.2.2.2.all (turnB r.1 (r.2.2.2.1.length : Int)) <;> rfl
        · have e : matV (ahd r) ≠ matV (cls hm r.2.2.2.1.length (ahd r)) := fun e => ht (hc.1 e)
          have e0 : (matV (ahd r) != matV (cls hm r.2.2.2.1.length (ahd r))) = true := by simpa using e
          rw [e0]
          have : vldB r = false := by simp [vldB, ht]
          rw [this]; rfl
end Go.Proofs.YthogdhepjcomjaaGreatDoor
