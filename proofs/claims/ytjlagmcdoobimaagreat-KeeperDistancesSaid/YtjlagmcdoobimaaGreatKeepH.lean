/-
  What is proved: what keeper and the specification answer on valid markets of few offers: costs, widths, the least lists.
-/
import Derived.Test.YtjlagmcdoobimaaGreatKeepG
import Derived.Test.YtjlagmcdoobimaaGreatModelB2
namespace Go.Proofs.YtjlagmcdoobimaaGreat
open Go Go.Proofs.YtjlagmcdoobimaaGreat.Wh
set_option maxRecDepth 100000

/-! ### comparing lists -/
def cmpL : List Nat → List Nat → Int
  | [], [] => 0
  | [], _ :: _ => -1
  | _ :: _, [] => 1
  | x :: r, y :: s => if x < y then -1 else if y < x then 1 else cmpL r s
theorem cmpL_lt : ∀ {a b : List Nat}, decide (cmpL a b < 0) = lexB a b
  | [], [] => rfl
  | [], _ :: _ => rfl
  | _ :: _, [] => rfl
  | x :: r, y :: s => by
    unfold cmpL lexB
    by_cases h1 : x < y
    · rw [if_pos h1, if_pos h1]; rfl
    · rw [if_neg h1, if_neg h1]
      by_cases h2 : y < x
      · rw [if_pos h2, if_pos h2]; rfl
      · rw [if_neg h2, if_neg h2]; exact cmpL_lt
def cmpAt (l l' : List Nat) (j : Nat) : Option Int := if l'.length ≤ j then some 1 else if l[j]?.getD 0 < l'[j]?.getD 0 then some (-1) else if l'[j]?.getD 0 < l[j]?.getD 0 then some 1 else none
theorem cmpL_find : ∀ (l l' : List Nat), (match (List.range l.length).findSome? (cmpAt l l') with | none => if l.length < l'.length then -1 else 0 | some r => r) = cmpL l l'
  | [], [] => rfl
  | [], _ :: _ => by simp [cmpL]
  | x :: r, [] => by
    simp [List.range_succ_eq_map, cmpAt, cmpL]
  | x :: r, y :: s => by
    have ih := cmpL_find r s
    have e : ∀ j, cmpAt (x :: r) (y :: s) (j + 1) = cmpAt r s j := fun j => by unfold cmpAt; simp
    have e0 : cmpAt (x :: r) (y :: s) 0 = if x < y then some (-1) else if y < x then some 1 else none := by unfold cmpAt; simp
    rw [List.length_cons, List.range_succ_eq_map, List.findSome?_cons, e0, List.findSome?_map]
    unfold cmpL
    by_cases h1 : x < y
    · rw [if_pos h1, if_pos h1]
    · rw [if_neg h1, if_neg h1]
      by_cases h2 : y < x
      · rw [if_pos h2, if_pos h2]
      · rw [if_neg h2, if_neg h2]
        rw [show (cmpAt (x :: r) (y :: s) ∘ Nat.succ) = cmpAt r s from funext e, ← ih]
        simp
theorem f85_eq {l l' : List Nat} (h : l.length ≤ 4096) : M.f85 (cst l) (cst l') = some (cmpL l l') := by
  unfold M.f85
  rw [show ((cst l).length : Int) = (l.length : Int) from by rw [cst_length], show ((cst l').length : Int) = (l'.length : Int) from by rw [cst_length]]
  refine bnd (forM_st (fun _ => ()) (cmpAt l l') rfl (by omega) fun j hj _ => ?_) ?_
  · rw [cst_get (List.getElem?_eq_getElem hj)]
    simp only [Option.bind_eq_bind, Option.bind_some]
    unfold cmpAt
    by_cases h1 : l'.length ≤ j
    · rw [if_pos h1, if_pos (by simpa using h1)]
    · rw [if_neg h1, if_neg (by simpa using h1), cst_get (List.getElem?_eq_getElem (show j < l'.length by omega))]
      simp only [Option.bind_some, f69_eq]
      rw [List.getElem?_eq_getElem hj, List.getElem?_eq_getElem (show j < l'.length by omega)]
      simp only [Option.getD_some]
      by_cases h2 : l[j] < l'[j]
      · have c1 : (l[j] : Int) < (l'[j] : Int) := by omega
        simp [h2, c1]
      · have c1 : ¬ (l[j] : Int) < (l'[j] : Int) := by omega
        by_cases h3 : l'[j] < l[j]
        · have c2 : (l'[j] : Int) < (l[j] : Int) := by omega
          simp [h2, c1, h3, c2]
        · have c2 : ¬ (l'[j] : Int) < (l[j] : Int) := by omega
          simp [h2, c1, h3, c2]
  · rw [← cmpL_find l l']
    cases (List.range l.length).findSome? (cmpAt l l') with
    | none =>
      simp only [Out.elim]
      by_cases q : l.length < l'.length
      · rw [if_pos q, if_pos (by simpa using q)]
      · rw [if_neg q, if_neg (by simpa using q)]
    | some r => rfl
theorem f68_eq (a b c : Int) : M.f68 [a, b, c] = some (if a = 0 then (if b = 0 then c else b) else a) := by
  unfold M.f68
  simp only [Wh.forM, List.length_cons, List.length_nil, idx, Out.elim]
  have n3 : ((((0 + 1 + 1 + 1 : Nat) : Int) - 0).toNat) = 3 := rfl
  simp only [n3, forFrom]
  by_cases ha : a = 0
  · by_cases hb : b = 0
    · by_cases hc : c = 0 <;> simp [ha, hb, hc]
    · simp [ha, hb]
  · simp [ha]
theorem f64_ok' (x y : Bool) (c d : Int) (s t : Nat) : M.f64 (x, c, (s : Int)) (y, d, (t : Int)) = some (befL c (sel 12 s) d (sel 12 t)) := by
  have h1 := sel_len 12 s
  have h2 := sel_len 12 t
  unfold M.f64
  refine bnd (f65_eq s) (bnd (f65_eq t) (bnd (f69_eq _ _) (bnd (f69_eq _ _) (bnd (f85_eq (by omega)) (bnd (f68_eq _ _ _) ?_)))))
  congr 1
  show decide ((if (if c < d then (-1 : Int) else if d < c then 1 else 0) = 0 then (if (if ((cst (sel 12 s)).length : Int) < ((cst (sel 12 t)).length : Int) then (-1 : Int) else if ((cst (sel 12 t)).length : Int) < ((cst (sel 12 s)).length : Int) then 1 else 0) = 0 then cmpL (sel 12 s) (sel 12 t) else (if ((cst (sel 12 s)).length : Int) < ((cst (sel 12 t)).length : Int) then (-1 : Int) else if ((cst (sel 12 t)).length : Int) < ((cst (sel 12 s)).length : Int) then 1 else 0)) else (if c < d then (-1 : Int) else if d < c then 1 else 0)) < 0) = _
  rw [cst_length, cst_length]
  unfold befL
  rw [← cmpL_lt]
  generalize cmpL (sel 12 s) (sel 12 t) = z
  apply Bool.eq_iff_iff.2
  simp
  split <;> split <;> (try split) <;> (try split) <;> (try split) <;> omega
/-! ### the least lists -/
def cS (of : List S_api_Offer) (s : Nat) : Int := costF of (sel of.length s)
def bfS (of : List S_api_Offer) (s t : Nat) : Bool := befL (cS of s) (sel of.length s) (cS of t) (sel of.length t)
/-- A least list, as keeper and the specification give it. -/
def bestR (of : List S_api_Offer) (q : Nat → Bool) : List Int × Bool × Int := match lst (bfS of) q (2 ^ of.length) with | none => ([], false, 0) | some t => (cst (sel of.length t), true, 0)
section
variable {n : Nat} {kn of : List S_api_Offer} (hm : Ok n kn of)
include hm
theorem Ok.cost {s : Nat} (hs : s < 2 ^ of.length) : M.f53 (s : Int) ((n : Int), kn, of) = some (cS of s) := hm.f53 hs
theorem Ok.leastS {P : Int → Option Bool} {q : Nat → Bool} (hP : ∀ s : Nat, s < 2 ^ of.length → P (s : Int) = some (q s)) :
    M.f41 (P, ()) ((n : Int), kn, of) = some (match lst (bfS of) q (2 ^ of.length) with | none => (false, 0, 0) | some t => (true, cS of t, (t : Int))) ∧ ∀ t, lst (bfS of) q (2 ^ of.length) = some t → t < 2 ^ of.length := by
  have hp := hm.pow
  have hlt : ∀ N t, lst (bfS of) q N = some t → t < N := fun N t h => (lst_congr (bf := bfS of) (q := q) (N := N) (fun _ _ => rfl) (fun _ _ _ _ => rfl)).2 t h
  refine ⟨?_, hlt _⟩
  unfold M.f41
  refine bnd hm.shl (bnd (forS_st (fun j => match lst (bfS of) q j with | none => ((false, 0, 0) : S_keeper_choice) | some t => (true, cS of t, (t : Int))) rfl (by omega) fun j hj => ?_) rfl)
  refine bnd (hm.cost hj) ?_
  cases h : lst (bfS of) q j with
  | none =>
    simp only [beq_self_eq_true, Bool.not_true, guardO, Option.bind_eq_bind, Option.bind_some, Bool.true_or, hP j hj, Bool.true_and]
    unfold lst
    rw [h]
    simp only
    cases q j <;> rfl
  | some t =>
    have ht := hlt j t h
    have hz : (((true, cS of t, (t : Int)) : S_keeper_choice) == ((false, 0, 0) : S_keeper_choice)) = false := rfl
    have hb : befL (cS of j) (sel 12 j) (cS of t) (sel 12 t) = bfS of j t := by unfold bfS; rw [hm.selE hj, hm.selE (by omega)]
    simp only [hz, Bool.not_false, guardO, Option.bind_eq_bind, Option.bind_some, Bool.false_or, f64_ok', hb]
    unfold lst
    rw [h]
    simp only
    cases hr : bfS of j t with
    | false => rfl
    | true =>
      simp only [hP j hj, Option.bind_some, Bool.true_and]
      cases q j <;> rfl
theorem Ok.list {P : Int → Option Bool} {q : Nat → Bool} (hP : ∀ s : Nat, s < 2 ^ of.length → P (s : Int) = some (q s)) :
    (M.f41 (P, ()) ((n : Int), kn, of) >>= fun v_5 => M.f42 v_5 >>= fun v_7 => some (v_7.1, v_7.2.1, v_7.2.2)) = some (bestR of q) := by
  obtain ⟨h1, h2⟩ := hm.leastS hP
  refine bnd h1 ?_
  unfold bestR
  cases h : lst (bfS of) q (2 ^ of.length) with
  | none => rfl
  | some t =>
    have hz : (((true, cS of t, (t : Int)) : S_keeper_choice) == ((false, 0, 0) : S_keeper_choice)) = false := rfl
    unfold M.f42
    simp only [hz, Bool.false_eq_true, if_false]
    refine bnd (bnd (f65_eq t) rfl) ?_
    rw [hm.selE (h2 t h)]
/-! ### all clocks -/
def togB (n : Nat) (kn of : List S_api_Offer) (w : Int) (s : Nat) : Bool := (List.range n).all fun a => (List.range n).all fun b => decide (WdS n kn of s a b ≤ w)
theorem Ok.f70 {s : Nat} (hs : s < 2 ^ of.length) (w : Int) : M.f70 (s : Int) ((n : Int), kn, of) w = some (togB n kn of w s) := by
  have h8 := hm.n8
  unfold M.f70
  refine bnd (hm.f33 hs) ?_
  unfold togB
  refine bnd (forM_test (N := n) (fun a => (List.range n).all fun b => decide (WdS n kn of s a b ≤ w)) false (by omega) fun a ha _ => ?_) (by
    generalize ((List.range n).all fun a => (List.range n).all fun b => decide (WdS n kn of s a b ≤ w)) = z
    cases z <;> rfl)
  refine bnd (forM_test (N := n) (fun b => decide (WdS n kn of s a b ≤ w)) false (by omega) fun b hb _ => ?_) (by split <;> rfl)
  refine bnd (idx_mat ha) (bnd (idx_row hb) ?_)
  by_cases q : WdS n kn of s a b ≤ w
  · rw [if_neg (by simp; omega), if_pos (by simpa using q)]
  · rw [if_pos (by simp; omega), if_neg (by simpa using q)]
/-! ### what is asked -/
def qW (n : Nat) (kn of : List S_api_Offer) (a b : Nat) (w : Int) (s : Nat) : Bool := decide (WdS n kn of s a b ≤ w)
omit hm in
theorem clock_nat {n : Nat} {x : Int} (h : clockB (n : Int) x = true) : ∃ k : Nat, x = (k : Int) ∧ k < n := by
  unfold clockB at h
  simp at h
  exact ⟨x.toNat, by omega, by omega⟩
theorem Ok.f15 {a b : Nat} (ha : a < n) (hb : b < n) {w : Int} (hc : codeQ ((n : Int), kn, of) [] [(a : Int), (b : Int)] [w] = 0) : M.f15 ((n : Int), kn, of) a b w = some (bestR of (qW n kn of a b w)) := by
  unfold M.f15
  refine bnd (f32_eqQ _ _ _ _ (by simp) (by simp) (by simp)) ?_
  rw [hc, if_neg (by decide)]
  exact bnd rfl (hm.list fun s hs => hm.f63 hs ha hb w)
theorem Ok.f18 {w : Int} (hc : codeQ ((n : Int), kn, of) [] [] [w] = 0) : M.f18 ((n : Int), kn, of) w = some (bestR of (togB n kn of w)) := by
  unfold M.f18
  refine bnd (f32_eqQ _ _ _ _ (by simp) (by simp) (by simp)) ?_
  rw [hc, if_neg (by decide)]
  exact bnd rfl (hm.list fun s hs => hm.f70 hs w)
end
/-- What a market of few offers is, if it is valid. -/
theorem few_cases {m : S_api_Market} (hf : m.2.2.length ≤ 6 ∨ 12 < m.2.2.length) (hv : validB m = true) : ∃ (n : Nat) (kn of : List S_api_Offer), m = ((n : Int), kn, of) ∧ Ok n kn of := by
  have h6 : m.2.2.length ≤ 6 := by
    rcases hf with hf | hf
    · exact hf
    · unfold validB at hv; simp at hv; omega
  obtain ⟨n, hn, hm⟩ := ok_of hv h6
  obtain ⟨c, kn, of⟩ := m
  have hn : c = (n : Int) := hn
  subst hn
  exact ⟨n, kn, of, rfl, hm⟩
end Go.Proofs.YtjlagmcdoobimaaGreat
