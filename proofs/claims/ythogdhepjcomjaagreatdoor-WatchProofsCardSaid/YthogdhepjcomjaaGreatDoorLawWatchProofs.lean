/-
  What is proved: for all rosters, gates, lists and numbers the model of WatchProofs returns true.
-/
import Derived.Test.YthogdhepjcomjaaGreatDoorWatV
namespace Go.Proofs.YthogdhepjcomjaaGreatDoor
open Go Go.Proofs.YthogdhepjcomjaaGreatDoor.Wh

section
variable {r : S_api_Roster} {g : Int} {l : List Int}
def incB (l : List Int) : Bool := (List.range (l.length - 1)).all fun k => decide (l.getD k 0 < l.getD (k + 1) 0)
theorem incB_iff : incB l = true ↔ l.Pairwise (· < ·) := by
  constructor
  · intro hh
    unfold incB at hh
    rw [List.all_eq_true] at hh
    have step : ∀ k (hk : k + 1 < l.length), l[k] < l[k + 1] := fun k hk => by
      have := hh k (List.mem_range.2 (by omega))
      rwa [decide_eq_true_eq, List.getD_eq_getElem?_getD, List.getD_eq_getElem?_getD, List.getElem?_eq_getElem (by omega), List.getElem?_eq_getElem (by omega)] at this
    have up : ∀ d i (hi : i + d + 1 < l.length), l[i] < l[i + d + 1] := by
      intro d
      induction d with
      | zero => intro i hi; exact step i hi
      | succ d ih =>
        intro i hi
        have h1 := ih i (by omega)
        have h2 := step (i + d + 1) (by omega)
        exact Int.lt_trans h1 h2
    rw [List.pairwise_iff_getElem]
    intro i j hi hj hij
    have h1 := up (j - i - 1) i (by omega)
    have e : l[i + (j - i - 1) + 1]'(by omega) = l[j] := by congr 1; omega
    rw [e] at h1
    exact h1
  · intro hh
    unfold incB
    rw [List.all_eq_true]
    intro k hk
    rw [List.pairwise_iff_getElem] at hh
    have hk := List.mem_range.1 hk
    have := hh k (k + 1) (by omega) (by omega) (by omega)
    rw [decide_eq_true_eq, List.getD_eq_getElem?_getD, List.getD_eq_getElem?_getD, List.getElem?_eq_getElem (by omega), List.getElem?_eq_getElem (by omega)]
    exact this
theorem gapA_eq (hg : 0 ≤ g) : gapA r g l = (incB l && (l.all (gtB r g) && difB l)) := by
  unfold gapA
  apply Bool.eq_iff_iff.2
  have hn : decide (g < 0) = false := by rw [decide_eq_false_iff_not]; omega
  simp only [Bool.and_eq_true, incB_iff]
  constructor
  · rintro ⟨a, b, d, e⟩
    refine ⟨dif_incr b d, List.all_eq_true.2 fun x hx => ?_, b⟩
    unfold gtB
    rw [hn, Bool.false_or, Bool.and_eq_true]
    exact ⟨List.all_eq_true.1 a x hx, List.all_eq_true.1 e x hx⟩
  · rintro ⟨a, b, d⟩
    have hb : ∀ x ∈ l, inR r x = true ∧ ((tn r x).1 == g) = true := fun x hx => by
      have := List.all_eq_true.1 b x hx
      unfold gtB at this
      rwa [hn, Bool.false_or, Bool.and_eq_true] at this
    exact ⟨List.all_eq_true.2 fun x hx => (hb x hx).1, d, (incr_dif a).2, List.all_eq_true.2 fun x hx => (hb x hx).2⟩
theorem f97_eq {fuel : Nat} {v : Int} (hl : l.length ≤ 100) (hf : 100 < fuel) : M.f97 fuel l v = some (l.contains v) := by
  unfold M.f97
  refine bnd (loopM_all (ρ := Unit ⊕ Bool) l (fun x => !(x == v)) (.inr true) (.inl ()) fuel (by omega) _ (fun i x hx => ?_) (by simp)) ?_
  · have hi := (List.getElem?_eq_some_iff.1 hx).1
    simp only [lt_dec hi, if_true, idx_nat, hx, Option.bind_eq_bind, Option.bind_some, wr_succ (show i < 4294967296 by omega)]
    cases x == v <;> rfl
  · have e : (l.all fun x => !(x == v)) = !l.contains v := by
      rw [List.contains_eq_any_beq, List.all_eq_not_any_not]
      congr 2
      funext x
      rw [Bool.not_not, Bool.eq_iff_iff]
      simp only [beq_iff_eq]
      exact ⟨fun e => e.symm, fun e => e.symm⟩
    rw [e]
    cases l.contains v <;> rfl
/-- It must be there, though it isn't, or it is there and late. -/
def badB (r : S_api_Roster) (g : Int) (l : List Int) (j : Nat) : Bool := (tnJ r j).1 == g && (((decide (bgI r (j : Int) ≤ 0) || l.any fun k => foB r k (j : Int)) && !l.contains (j : Int)) || (l.contains (j : Int) && decide (enI r (j : Int) ≤ 0)))
theorem bad_eq (ha : ∀ x ∈ l, inR r x = true ∧ (tn r x).1 = g) : (List.range r.2.2.2.2.length).any (badB r g l) = (l.any (fun x => decide (enI r x ≤ 0)) || (List.range r.2.2.2.2.length).any (misB r g l)) := by
  apply Bool.eq_iff_iff.2
  rw [Bool.or_eq_true, List.any_eq_true, List.any_eq_true, List.any_eq_true]
  constructor
  · rintro ⟨j, hj, hb⟩
    unfold badB at hb
    rw [Bool.and_eq_true, Bool.or_eq_true, Bool.and_eq_true, Bool.and_eq_true] at hb
    obtain ⟨hg, hb | hb⟩ := hb
    · refine .inr ⟨j, hj, ?_⟩
      unfold misB
      rw [hg, hb.2, hb.1]; rfl
    · exact .inl ⟨(j : Int), by simpa using hb.1, hb.2⟩
  · rintro (⟨x, hx, he⟩ | ⟨j, hj, hm⟩)
    · obtain ⟨h1, h2⟩ := ha x hx
      have h1 := inR_iff.1 h1
      refine ⟨x.toNat, List.mem_range.2 (by omega), ?_⟩
      unfold badB
      rw [show ((x.toNat : Nat) : Int) = x by omega]
      have e1 : l.contains x = true := by simpa using hx
      have e2 : ((tnJ r x.toNat).1 == g) = true := by rw [beq_iff_eq]; exact h2
      rw [e1, e2, he]; simp
    · refine ⟨j, hj, ?_⟩
      unfold misB at hm
      unfold badB
      rw [Bool.and_eq_true, Bool.and_eq_true] at hm
      rw [hm.1, hm.2.1, hm.2.2]; rfl
theorem f26_eq {fuel : Nat} (hl : l.length ≤ 100) (hf : 200 < fuel) : M.f26 fuel r g l = some (chkG r g l) := by
  unfold M.f26 chkG
  rw [f75_eq (by omega)]
  simp only [Option.bind_eq_bind, Option.bind_some]
  by_cases q : ¬ gateE r g = 0
  · rw [if_pos (by simpa using q), if_neg q]
  replace q : gateE r g = 0 := by omega
  rw [if_neg (by simp [q]), if_pos q]
  obtain ⟨h, hg0, hg1⟩ := gateE_zero q
  have h24 := h.len
  rw [gapA_eq hg0]
  refine bnd (loopM_test (ρ := Unit ⊕ Int) (N := l.length - 1) (fun j : Nat => ((j + 1 : Nat) : Int)) (fun k => decide (l.getD k 0 < l.getD (k + 1) 0)) (.inr 1) (.inl ()) (by simp) (by omega) (fun j hj _ => ?_) ?_) ?_
  · have j1 : idx l (wr (((j + 1 : Nat) : Int) - 1)) = some (l.getD j 0) := by
      rw [wr_id (by omega) (by omega), show (((j + 1 : Nat) : Int) - 1) = (j : Int) by omega]
      exact idx_getD (by omega)
    have j2 : idx l ((j + 1 : Nat) : Int) = some (l.getD (j + 1) 0) := idx_getD (by omega)
    simp only [lt_dec (show j + 1 < l.length by omega), if_true, j1, j2, Option.bind_some, wr_succ (show j + 1 < 4294967296 by omega)]
    by_cases q2 : l.getD j 0 < l.getD (j + 1) 0
    · rw [if_neg (by rw [decide_eq_true_eq]; omega), if_pos (by rw [decide_eq_true_eq]; exact q2)]
    · rw [if_pos (by rw [decide_eq_true_eq]; omega), if_neg (by rw [decide_eq_true_eq]; exact q2)]
  · have : decide (((l.length - 1 + 1 : Nat) : Int) < (l.length : Int)) = false := by rw [decide_eq_false_iff_not]; omega
    rw [if_neg (by rw [this]; simp)]
  · show (sumE (if incB l = true then _ else _) _ _ : Option Int) = _
    cases hi : incB l with
    | false => rfl
    | true =>
      simp only [if_true, sumE, f96_eq (show l.length < fuel by omega) (show l.length ≤ 4294967295 by omega), Option.bind_some, Bool.true_and]
      cases hd : (l.all (gtB r g) && difB l) with
      | false => rfl
      | true =>
        simp only [Bool.not_true, Bool.false_eq_true, if_false, if_true]
        rw [Bool.and_eq_true] at hd
        have ha : ∀ x ∈ l, inR r x = true ∧ (tn r x).1 = g := fun x hx => by
          have := List.all_eq_true.1 hd.1 x hx
          unfold gtB at this
          have hn : decide (g < 0) = false := by rw [decide_eq_false_iff_not]; omega
          rw [hn, Bool.false_or, Bool.and_eq_true, beq_iff_eq] at this
          exact this
        rw [← bad_eq ha]
        refine bnd (loopM_test (ρ := Unit ⊕ Int) (N := r.2.2.2.2.length) (fun j : Nat => (j : Int)) (fun j => !badB r g l j) (.inr 32) (.inl ()) rfl (by omega) (fun j hj _ => ?_) (by simp)) ?_
        · have hx : inR r (j : Int) = true := inR_iff.2 ⟨by omega, by omega⟩
          have e1 : idx r.2.2.2.2 (j : Int) = some (tnJ r j) := idx_getD hj
          simp only [lt_dec hj, if_true, e1, Option.bind_some, wr_succ (show j < 4294967296 by omega)]
          unfold badB
          by_cases hg : (tnJ r j).1 = g
          · have e2 : ((tnJ r j).1 == g) = true := by simp [hg]
            have e3 : ((tnJ r j).1 != g) = false := by simp [hg]
            simp only [e2, e3, Bool.false_eq_true, if_false, f83_eq h hx, Option.bind_some, Bool.true_and]
            refine bnd (loopM_go (N := l.length) (fun i : Nat => (decide (bgI r (j : Int) ≤ 0) || (l.take i).any (fun k => foB r k (j : Int)), (i : Int))) (decide (bgI r (j : Int) ≤ 0) || l.any (fun k => foB r k (j : Int))) (by simp) (by omega) (fun i hi2 => ?_) (by simp)) ?_
            · have hli : inR r (l.getD i 0) = true := (ha _ (at_mem hi2)).1
              have e5 : (l.take (i + 1)).any (fun k => foB r k (j : Int)) = ((l.take i).any (fun k => foB r k (j : Int)) || foB r (l.getD i 0) (j : Int)) := by
                rw [List.take_add_one, List.getElem?_eq_getElem hi2, List.any_append, List.getD_eq_getElem?_getD, List.getElem?_eq_getElem hi2]
                simp
              simp only [lt_dec hi2, if_true, idx_getD (d := (0 : Int)) hi2, e5, wr_succ (show i < 4294967296 by omega)]
              rw [← Bool.or_assoc]
              cases (decide (bgI r (j : Int) ≤ 0) || (l.take i).any (fun k => foB r k (j : Int))) with
              | true => simp [guardO]
              | false => simp only [guardO, Bool.not_false, f84_eq h hli hx, Option.bind_some, Bool.false_or]
            · generalize (decide (bgI r (j : Int) ≤ 0) || l.any (fun k => foB r k (j : Int))) = must
              simp only [f97_eq hl (show 100 < fuel by omega), f98_eq h hx]
              cases must <;> cases l.contains (j : Int) <;> cases decide (enI r (j : Int) ≤ 0) <;> rfl
          · have e2 : ((tnJ r j).1 == g) = false := by simpa using hg
            have e3 : ((tnJ r j).1 != g) = true := by simpa using hg
            simp only [e2, e3, if_true, Bool.false_and, Bool.not_false]
        · have e : ((List.range r.2.2.2.2.length).all fun j => !badB r g l j) = !(List.range r.2.2.2.2.length).any (badB r g l) := by
            rw [List.all_eq_not_any_not]
            congr 2
            funext j
            rw [Bool.not_not]
          rw [e]
          generalize (List.range r.2.2.2.2.length).any (badB r g l) = v
          cases v <;> rfl
theorem f28_eq {fuel : Nat} {cost : Int} {p : List Int} (_hl : p.length ≤ 100) (hf : 200 < fuel) : M.f28 fuel r g cost p = some (chkC r g cost p) := by
  unfold M.f28 chkC
  rw [f75_eq (by omega)]
  simp only [Option.bind_eq_bind, Option.bind_some]
  by_cases q : ¬ gateE r g = 0
  · rw [if_pos (by simpa using q), if_neg q]
  replace q : gateE r g = 0 := by omega
  rw [if_neg (by simp [q]), if_pos q]
  obtain ⟨h, hg0, hg1⟩ := gateE_zero q
  have h24 := h.len
  have elen : ((p.length : Int) != (r.2.2.2.2.length : Int)) = !decide (p.length = r.2.2.2.2.length) := by
    apply Bool.eq_iff_iff.2
    simp
    omega
  have ein : (decide (cost < 0) || decide (1048576 < cost)) = !inP cost := by
    unfold inP
    rw [Bool.eq_iff_iff, Bool.or_eq_true, Bool.not_eq_true', Bool.and_eq_false_iff]
    simp only [decide_eq_true_eq, decide_eq_false_iff_not]
    omega
  rw [elen, ein]
  cases hc : inP cost with
  | false => rfl
  | true =>
    by_cases hpl : ¬ p.length = r.2.2.2.2.length
    · simp [hpl]
    replace hpl : p.length = r.2.2.2.2.length := by omega
    have hdl : decide (p.length = r.2.2.2.2.length) = true := decide_eq_true hpl
    simp only [hdl, Bool.not_true, Bool.or_self, Bool.false_eq_true, if_false, Bool.true_and]
    refine bnd (loopM_all (ρ := Unit ⊕ Int) p inP (.inr 1) (.inl ()) fuel (by omega) _ (fun i x hx => ?_) (by simp)) ?_
    · have hi := (List.getElem?_eq_some_iff.1 hx).1
      simp only [lt_dec hi, if_true, idx_nat, hx, Option.bind_some, wr_succ (show i < 4294967296 by omega)]
      unfold inP
      by_cases h1 : x < 0
      · have : ¬ 0 ≤ x := by omega
        simp [h1, this, guardO]
      · have h2 : 0 ≤ x := by omega
        by_cases h3 : 1048576 < x
        · have h4 : ¬ x ≤ 1048576 := by omega
          simp [h1, h2, h3, h4, guardO]
        · have h4 : x ≤ 1048576 := by omega
          simp [h1, h2, h3, h4, guardO]
    · cases hp : p.all inP with
      | false => rfl
      | true =>
        simp only [if_true, sumE]
        have hget : ∀ k, k < p.length → 0 ≤ p.getD k 0 ∧ p.getD k 0 ≤ 1048576 := fun k hk => by
          have := all_get (d := 0) hp hk
          unfold inP at this
          simpa using this
        refine bnd (loopM_test (ρ := Unit ⊕ Int) (N := r.2.2.2.2.length) (fun j : Nat => (j : Int)) (fun j => !wrgB r g cost p j) (.inr 32) (.inl ()) rfl (by omega) (fun j hj _ => ?_) (by rw [hpl]; simp)) ?_
        · have hx : inR r (j : Int) = true := inR_iff.2 ⟨by omega, by omega⟩
          have e1 : idx r.2.2.2.2 (j : Int) = some (tnJ r j) := idx_getD hj
          have e2 : idx p (j : Int) = some (p.getD j 0) := idx_getD (by omega)
          have ecs : (tnJ r j).2.2.2.2.2 = cs r (j : Int) := rfl
          simp only [lt_dec (show j < p.length by omega), if_true, e1, e2, Option.bind_some, f83_eq h hx, f98_eq h hx, wr_succ (show j < 4294967296 by omega)]
          unfold wrgB
          by_cases hg : (tnJ r j).1 = g
          · have e3 : ((tnJ r j).1 == g) = true := by simp [hg]
            have e4 : ((tnJ r j).1 != g) = false := by simp [hg]
            simp only [e3, e4, Bool.false_eq_true, if_false, Bool.true_and]
            have inner : loopM (ρ := (Unit ⊕ Int)) (fun s_60 : Int =>
              (if (decide (s_60 < (p.length : Int))) = true then (
              (M.f84 r s_60 (j : Int)).bind fun v_64 =>
              (guardO v_64 (some (p.getD j 0))).bind fun v_66 =>
              (guardO v_64 (idx p s_60)).bind fun v_68 =>
              (guardO v_64 (some (tnJ r j))).bind fun v_70 =>
              (if (v_64 && (decide ((wr (v_68 + v_70.2.2.2.2.2)) < v_66))) = true then (
              some (.leave (.inr 32)))
              else (
              some (.again (wr (s_60 + 1))))))
              else (
              some (.leave (.inl ()))))) fuel (0 : Int) = some (if ((List.range r.2.2.2.2.length).any fun k => (tnJ r k).1 == g && (foB r (k : Int) (j : Int) && decide (p.getD k 0 + cs r (j : Int) < p.getD j 0))) = true then .inr 32 else .inl ()) := by
              refine Eq.trans (loopM_test (ρ := Unit ⊕ Int) (N := r.2.2.2.2.length) (fun k : Nat => (k : Int)) (fun k => !((tnJ r k).1 == g && (foB r (k : Int) (j : Int) && decide (p.getD k 0 + cs r (j : Int) < p.getD j 0)))) (.inr 32) (.inl ()) rfl (by omega) (fun k hk _ => ?_) (by rw [hpl]; simp)) ?_
              · have hy : inR r (k : Int) = true := inR_iff.2 ⟨by omega, by omega⟩
                have b1 := hget k (by omega)
                have b2 := h.cs (j : Int)
                have e2k : idx p (k : Int) = some (p.getD k 0) := idx_getD (by omega)
                simp only [lt_dec (show k < p.length by omega), if_true, f84_eq h hy hx, Option.bind_some, wr_succ (show k < 4294967296 by omega)]
                cases hfo : foB r (k : Int) (j : Int) with
                | false => simp [guardO]
                | true =>
                  have hgk : ((tnJ r k).1 == g) = true := by
                    have := (foB_iff.1 hfo).2.1
                    rw [beq_iff_eq, ← hg]; exact this
                  simp only [guardO, e2k, Option.bind_some, ecs, hgk, Bool.true_and, wr_id (show -9223372036854775808 ≤ p.getD k 0 + cs r (j : Int) by omega) (show p.getD k 0 + cs r (j : Int) ≤ 9223372036854775807 by omega)]
                  cases decide (p.getD k 0 + cs r (j : Int) < p.getD j 0) <;> rfl
              · have e : ((List.range r.2.2.2.2.length).all fun k => !((tnJ r k).1 == g && (foB r (k : Int) (j : Int) && decide (p.getD k 0 + cs r (j : Int) < p.getD j 0)))) = !((List.range r.2.2.2.2.length).any fun k => (tnJ r k).1 == g && (foB r (k : Int) (j : Int) && decide (p.getD k 0 + cs r (j : Int) < p.getD j 0))) := by
                  rw [List.all_eq_not_any_not]
                  congr 2
                  funext j
                  rw [Bool.not_not]
                rw [e]
                generalize ((List.range r.2.2.2.2.length).any fun k => (tnJ r k).1 == g && (foB r (k : Int) (j : Int) && decide (p.getD k 0 + cs r (j : Int) < p.getD j 0))) = v
                cases v <;> rfl
            rw [inner]
            generalize ((List.range r.2.2.2.2.length).any fun k => (tnJ r k).1 == g && (foB r (k : Int) (j : Int) && decide (p.getD k 0 + cs r (j : Int) < p.getD j 0))) = v
            rw [← ecs]
            cases hb : decide (bgI r (j : Int) ≤ 0) with
            | false =>
              cases he : decide (enI r (j : Int) ≤ 0) with
              | false => cases v <;> simp only [guardO, Option.bind_some, Bool.true_and, Bool.false_and, Bool.not_true, Bool.not_false, Bool.or_true, Bool.or_false, Bool.false_or, Bool.false_eq_true, if_true, if_false]
              | true => cases hc2 : decide (p.getD j 0 < cost) <;> cases v <;> simp only [hc2, guardO, Option.bind_some, Bool.true_and, Bool.false_and, Bool.and_true, Bool.and_false, Bool.not_true, Bool.not_false, Bool.or_true, Bool.or_false, Bool.false_or, Bool.false_eq_true, if_true, if_false]
            | true =>
              cases hb2 : decide ((tnJ r j).2.2.2.2.2 < p.getD j 0) with
              | true => simp only [hb2, guardO, Option.bind_some, Bool.true_and, Bool.false_and, Bool.and_true, Bool.not_true, Bool.true_or, Bool.false_eq_true, if_true, if_false]
              | false =>
                cases he : decide (enI r (j : Int) ≤ 0) with
                | false => cases v <;> simp only [hb2, guardO, Option.bind_some, Bool.true_and, Bool.false_and, Bool.and_false, Bool.not_true, Bool.not_false, Bool.or_true, Bool.or_false, Bool.false_or, Bool.false_eq_true, if_true, if_false]
                | true => cases hc2 : decide (p.getD j 0 < cost) <;> cases v <;> simp only [hb2, hc2, guardO, Option.bind_some, Bool.true_and, Bool.and_true, Bool.and_false, Bool.not_true, Bool.not_false, Bool.or_true, Bool.or_false, Bool.false_or, Bool.false_eq_true, if_true, if_false]
          · have e3 : ((tnJ r j).1 == g) = false := by simpa using hg
            have e4 : ((tnJ r j).1 != g) = true := by simpa using hg
            simp only [e3, e4, if_true, Bool.false_and, Bool.not_false]
        · have e : ((List.range r.2.2.2.2.length).all fun j => !wrgB r g cost p j) = !(List.range r.2.2.2.2.length).any (wrgB r g cost p) := by
            rw [List.all_eq_not_any_not]
            congr 2
            funext j
            rw [Bool.not_not]
          rw [e]
          generalize (List.range r.2.2.2.2.length).any (wrgB r g cost p) = v
          cases v <;> rfl
/-- What both return as prices. -/
theorem prices_both {fuel : Nat} (hf : fuB r ≤ fuel) : ∃ v : List Int × Int, v.1.length ≤ 24 ∧ M.f22 fuel r g = some v ∧ M.f23 fuel r g = some v := by
  have hf1 : 40000000 < fuel := by unfold fuB at hf; omega
  have hf2 : wayB r.2.2.2.2.length < fuel := by unfold fuB at hf; omega
  by_cases q : gateE r g = 0
  · obtain ⟨h, h0, h1⟩ := gateE_zero q
    have h24 := h.len
    obtain ⟨best, O, hb, hO, e⟩ := f22_so h h0 h1 hf2
    refine ⟨_, ?_, e, f23_so h h0 h1 hf1 hb hO⟩
    split
    · simp
    · unfold prL; simp; omega
  · refine ⟨([], gateE r g), by simp, ?_, ?_⟩
    · unfold M.f22
      rw [f73_eq]
      simp only [Option.bind_eq_bind, Option.bind_some]
      rw [if_pos (by simpa using q)]
    · unfold M.f23
      rw [f75_eq (by omega)]
      simp only [Option.bind_eq_bind, Option.bind_some]
      rw [if_pos (by simpa using q)]
end
theorem law_WatchProofs (p0 : S_api_Roster) (p1 : Int) (p2 : List Int) (p3 : Int) (p4 : List Int) : ∃ fuel, M.f3 fuel p0 p1 p2 p3 p4 = some true := by
  obtain ⟨fuel, hf⟩ : ∃ fuel, fuel = fuB p0 := ⟨_, rfl⟩
  have hf0 : fuB p0 ≤ fuel := by omega
  have hf1 : 40000000 < fuel := by unfold fuB at hf; omega
  refine ⟨fuel, ?_⟩
  unfold M.f3
  rw [sane_at (by omega), f17_eq (by simp)]
  simp only [Option.bind_eq_bind, Option.bind_some, Bool.not_true, Bool.false_eq_true, if_false]
  cases hq : fewB p0 [p2, p4] with
  | false => rfl
  | true =>
    have hl : p2.length ≤ 100 ∧ p4.length ≤ 100 ∧ p0.2.2.2.2.length ≤ 100 := by
      unfold fewB at hq
      simp only [List.all_cons, List.all_nil, Bool.and_true, Bool.and_eq_true, decide_eq_true_eq] at hq
      omega
    obtain ⟨v, v1, v2, v3⟩ := prices_both (g := p1) hf0
    have hr : (if gateE p0 p1 = 0 then ((rchL p0 p1 (-1), 0) : List Int × Int) else ([], gateE p0 p1)).1.length ≤ 4294967296 := by
      have := rchL_len (r := p0) (g := p1) (w := -1)
      split
      · simp only; omega
      · simp
    have hgl : (gapV p0 p1).1.length ≤ 4294967296 := by
      have := rchL_len (r := p0) (g := p1) (w := -1)
      unfold gapV
      split
      · split
        · simp
        · simp only; omega
      · simp
    simp only [f18_eq (show 25 < fuel by omega), f19_eq (show 100 < fuel by omega), f20_eq (show 25 < fuel by omega), f21_eq hf1, v2, v3, Option.bind_some, f24_eq hr, f24_eq hgl, f24_eq (show v.1.length ≤ 4294967296 by omega), f25_eq hl.1 (show 100 < fuel by omega), f26_eq hl.1 (show 200 < fuel by omega),
      f27_eq hl.2.1, f28_eq hl.2.1 (show 200 < fuel by omega), beq_self_eq_true, Bool.and_true, guardO, Bool.not_true, Bool.false_eq_true, if_false]
end Go.Proofs.YthogdhepjcomjaaGreatDoor
