/-
  What is proved: what keeper and the specification answer on valid markets of few offers: costs, widths, the least lists.
-/
import Derived.Test.YtkbilbeaedocjaaKeepG
import Derived.Test.YtkbilbeaedocjaaModelD
import Derived.Test.YtkbilbeaedocjaaModelF
namespace Go.Proofs.Ytkbilbeaedocjaa
open Go Go.Proofs.Ytkbilbeaedocjaa.Wh
set_option maxRecDepth 100000

/-! ### comparing lists -/
def cmpL : List Nat → List Nat → Int
  | [], [] => 0
  | [], _ :: _ => -1
  | _ :: _, [] => 1
  | x :: r, y :: s => if x < y then -1 else if y < x then 1 else cmpL r s
theorem cmpL_lt : ∀ {a b : List Nat}, decide (cmpL a b < 0) = lexB a b
  | [], [] => rfl
  | [], _ :: _ => rfl
  | _ :: _, [] => rfl
  | x :: r, y :: s => by
    unfold cmpL lexB
    by_cases h1 : x < y
    · rw [if_pos h1, if_pos h1]; rfl
    · rw [if_neg h1, if_neg h1]
      by_cases h2 : y < x
      · rw [if_pos h2, if_pos h2]; rfl
      · rw [if_neg h2, if_neg h2]; exact cmpL_lt
def cmpAt (l l' : List Nat) (j : Nat) : Option Int := if l'.length ≤ j then some 1 else if l[j]?.getD 0 < l'[j]?.getD 0 then some (-1) else if l'[j]?.getD 0 < l[j]?.getD 0 then some 1 else none
theorem cmpL_find : ∀ (l l' : List Nat), (match (List.range l.length).findSome? (cmpAt l l') with | none => if l.length < l'.length then -1 else 0 | some r => r) = cmpL l l'
  | [], [] => rfl
  | [], _ :: _ => by simp [cmpL]
  | x :: r, [] => by
    simp [List.range_succ_eq_map, cmpAt, cmpL]
  | x :: r, y :: s => by
    have ih := cmpL_find r s
    have e : ∀ j, cmpAt (x :: r) (y :: s) (j + 1) = cmpAt r s j := fun j => by unfold cmpAt; simp
    have e0 : cmpAt (x :: r) (y :: s) 0 = if x < y then some (-1) else if y < x then some 1 else none := by unfold cmpAt; simp
    rw [List.length_cons, List.range_succ_eq_map, List.findSome?_cons, e0, List.findSome?_map]
    unfold cmpL
    by_cases h1 : x < y
    · rw [if_pos h1, if_pos h1]
    · rw [if_neg h1, if_neg h1]
      by_cases h2 : y < x
      · rw [if_pos h2, if_pos h2]
      · rw [if_neg h2, if_neg h2]
        rw [show (cmpAt (x :: r) (y :: s) ∘ Nat.succ) = cmpAt r s from funext e, ← ih]
        simp
theorem f94_eq {l l' : List Nat} (h : l.length ≤ 4096) : M.f94 (cst l) (cst l') = some (cmpL l l') := by
  unfold M.f94
  rw [show ((cst l).length : Int) = (l.length : Int) from by rw [cst_length], show ((cst l').length : Int) = (l'.length : Int) from by rw [cst_length]]
  refine bnd (forM_st (fun _ => ()) (cmpAt l l') rfl (by omega) fun j hj _ => ?_) ?_
  · rw [cst_get (List.getElem?_eq_getElem hj)]
    simp only [Option.bind_eq_bind, Option.bind_some]
    unfold cmpAt
    by_cases h1 : l'.length ≤ j
    · rw [if_pos h1, if_pos (by simpa using h1)]
    · rw [if_neg h1, if_neg (by simpa using h1), cst_get (List.getElem?_eq_getElem (show j < l'.length by omega))]
      simp only [Option.bind_some, f125_eq]
      rw [List.getElem?_eq_getElem hj, List.getElem?_eq_getElem (show j < l'.length by omega)]
      simp only [Option.getD_some]
      by_cases h2 : l[j] < l'[j]
      · have c1 : (l[j] : Int) < (l'[j] : Int) := by omega
        simp [h2, c1]
      · have c1 : ¬ (l[j] : Int) < (l'[j] : Int) := by omega
        by_cases h3 : l'[j] < l[j]
        · have c2 : (l'[j] : Int) < (l[j] : Int) := by omega
          simp [h2, c1, h3, c2]
        · have c2 : ¬ (l'[j] : Int) < (l[j] : Int) := by omega
          simp [h2, c1, h3, c2]
  · rw [← cmpL_find l l']
    cases (List.range l.length).findSome? (cmpAt l l') with
    | none =>
      simp only [Out.elim]
      by_cases q : l.length < l'.length
      · rw [if_pos q, if_pos (by simpa using q)]
      · rw [if_neg q, if_neg (by simpa using q)]
    | some r => rfl
theorem f124_eq (a b c : Int) : M.f124 [a, b, c] = some (if a = 0 then (if b = 0 then c else b) else a) := by
  unfold M.f124
  simp only [Wh.forM, List.length_cons, List.length_nil, idx, Out.elim]
  have n3 : ((((0 + 1 + 1 + 1 : Nat) : Int) - 0).toNat) = 3 := rfl
  simp only [n3, forFrom]
  by_cases ha : a = 0
  · by_cases hb : b = 0
    · by_cases hc : c = 0 <;> simp [ha, hb, hc]
    · simp [ha, hb]
  · simp [ha]
theorem f117_ok' (x y : Bool) (c d : Int) (s t : Nat) : M.f117 (x, c, (s : Int)) (y, d, (t : Int)) = some (befL c (sel 12 s) d (sel 12 t)) := by
  have h1 := sel_len 12 s
  have h2 := sel_len 12 t
  unfold M.f117
  refine bnd (f118_eq s) (bnd (f118_eq t) (bnd (f125_eq _ _) (bnd (f125_eq _ _) (bnd (f94_eq (by omega)) (bnd (f124_eq _ _ _) ?_)))))
  congr 1
  show decide ((if (if c < d then (-1 : Int) else if d < c then 1 else 0) = 0 then (if (if ((cst (sel 12 s)).length : Int) < ((cst (sel 12 t)).length : Int) then (-1 : Int) else if ((cst (sel 12 t)).length : Int) < ((cst (sel 12 s)).length : Int) then 1 else 0) = 0 then cmpL (sel 12 s) (sel 12 t) else (if ((cst (sel 12 s)).length : Int) < ((cst (sel 12 t)).length : Int) then (-1 : Int) else if ((cst (sel 12 t)).length : Int) < ((cst (sel 12 s)).length : Int) then 1 else 0)) else (if c < d then (-1 : Int) else if d < c then 1 else 0)) < 0) = _
  rw [cst_length, cst_length]
  unfold befL
  rw [← cmpL_lt]
  generalize cmpL (sel 12 s) (sel 12 t) = z
  apply Bool.eq_iff_iff.2
  simp
  split <;> split <;> (try split) <;> (try split) <;> (try split) <;> omega
theorem f119_eq' {m : S_api_Market} {a b : List Nat} {c d : Int} (hc : M.f81 1000 m (cst a) = some c) (hd : M.f81 1000 m (cst b) = some d) (hl : a.length ≤ 900) : M.f119 1000 m (cst a) (cst b) = some (befL c a d b) := by
  unfold M.f119
  refine bnd hc (bnd hd ?_)
  unfold befL
  by_cases h1 : c = d
  · subst h1
    rw [if_neg (by simp)]
    have e : ¬ c < c := by omega
    simp only [e, decide_false, Bool.false_or, decide_true, Bool.true_and]
    rw [show ((cst a).length : Int) = (a.length : Int) from by rw [cst_length], show ((cst b).length : Int) = (b.length : Int) from by rw [cst_length]]
    by_cases h2 : a.length = b.length
    · rw [if_neg (by simp; omega)]
      have e2 : ¬ a.length < b.length := by omega
      simp only [e2, decide_false, Bool.false_or, h2, decide_true, Bool.true_and]
      have key : ∀ (a b : List Nat), a.length = b.length → ((List.range a.length).findSome? (fun j => if a[j]?.getD 0 = b[j]?.getD 0 then none else some (decide (a[j]?.getD 0 < b[j]?.getD 0)))).getD false = lexB a b := by
        intro a
        induction a with
        | nil => intro b hb; cases b with
          | nil => rfl
          | cons _ _ => simp at hb
        | cons x r ih =>
          intro b hb
          cases b with
          | nil => simp at hb
          | cons y s =>
            rw [List.length_cons, List.range_succ_eq_map, List.findSome?_cons, List.findSome?_map]
            have e3 : ((fun j => if (x :: r)[j]?.getD 0 = (y :: s)[j]?.getD 0 then none else some (decide ((x :: r)[j]?.getD 0 < (y :: s)[j]?.getD 0))) ∘ Nat.succ) = (fun j => if r[j]?.getD 0 = s[j]?.getD 0 then none else some (decide (r[j]?.getD 0 < s[j]?.getD 0))) := by
              funext j; simp
            rw [e3]
            have ih := ih s (by simpa using hb)
            unfold lexB
            rw [← ih]
            by_cases q1 : x < y
            · have q2 : ¬ x = y := by omega
              simp [q1, q2]
            · by_cases q3 : x = y
              · subst q3; simp
              · have q4 : y < x := by omega
                simp [q1, q3, q4]
      rw [← key a b h2]
      refine bnd (loopM_st (N := a.length) (fun j => (j : Int)) (fun j => if a[j]?.getD 0 = b[j]?.getD 0 then none else some (.inr (decide (a[j]?.getD 0 < b[j]?.getD 0)))) (.inl ()) rfl (by omega) (fun j hj _ => ?_) (fun _ => ?_)) ?_
      · have x1 := List.getElem?_eq_getElem hj
        have x2 := List.getElem?_eq_getElem (show j < b.length by omega)
        rw [if_pos (by simp only [cst_length, decide_eq_true_eq]; omega), cst_get x1, cst_get x2]
        simp only [Option.bind_eq_bind, Option.bind_some, x1, x2, Option.getD_some]
        by_cases q : a[j] = b[j]
        · rw [if_pos q, if_neg (by simp [q]), wr_id (by omega) (by omega)]; rfl
        · rw [if_neg q, if_pos (by simp; omega)]
          congr 3
          apply Bool.eq_iff_iff.2; simp
      · rw [if_neg (by simp only [cst_length, decide_eq_true_eq]; omega)]
      · have e5 : ¬ b.length < b.length := by omega
        have e4 : ∀ l : List Nat, l.findSome? (fun j => if a[j]?.getD 0 = b[j]?.getD 0 then none else some (.inr (decide (a[j]?.getD 0 < b[j]?.getD 0)) : Unit ⊕ Bool)) = (l.findSome? (fun j => if a[j]?.getD 0 = b[j]?.getD 0 then none else some (decide (a[j]?.getD 0 < b[j]?.getD 0)))).map .inr := by
          intro l
          induction l with
          | nil => rfl
          | cons i l ih =>
            rw [List.findSome?_cons, List.findSome?_cons]
            by_cases q : a[i]?.getD 0 = b[i]?.getD 0
            · simp only [q, if_true]; exact ih
            · simp only [q, if_false]; rfl
        rw [e4]
        cases (List.range a.length).findSome? (fun j => if a[j]?.getD 0 = b[j]?.getD 0 then none else some (decide (a[j]?.getD 0 < b[j]?.getD 0))) <;> simp [e5, sumE]
    · rw [if_pos (by simp; omega)]
      have e2 : ¬ ((a.length : Int) = (b.length : Int)) := by omega
      simp [h2]
  · rw [if_pos (by simpa using h1)]
    simp [h1]
/-! ### the least lists -/
def cS (of : List S_api_Offer) (s : Nat) : Int := costF of (sel of.length s)
def bfS (of : List S_api_Offer) (s t : Nat) : Bool := befL (cS of s) (sel of.length s) (cS of t) (sel of.length t)
theorem bfS_irrefl (of : List S_api_Offer) (s : Nat) : bfS of s s = false := befL_irrefl _ _
theorem bfS_trans (of : List S_api_Offer) (a b c : Nat) (h : bfS of a b = true) (k : bfS of b c = true) : bfS of a c = true := befL_trans h k
theorem bfS_total (of : List S_api_Offer) (a b : Nat) (ha : a < 2 ^ of.length) (hb : b < 2 ^ of.length) (h : bfS of a b = false) (k : bfS of b a = false) : a = b := sel_inj ha hb (befL_total h k).2
/-- A least list, as keeper and the specification give it. -/
def bestR (of : List S_api_Offer) (q : Nat → Bool) : List Int × Bool × Int := match lst (bfS of) q (2 ^ of.length) with | none => ([], false, 0) | some t => (cst (sel of.length t), true, 0)
section
variable {n : Nat} {kn of : List S_api_Offer} (hm : Ok n kn of)
include hm
theorem Ok.cost {s : Nat} (hs : s < 2 ^ of.length) : M.f82 (s : Int) ((n : Int), kn, of) = some (cS of s) := hm.f82 hs
theorem Ok.costR {s : Nat} : M.f81 1000 ((n : Int), kn, of) (cst (sel of.length s)) = some (cS of s) := hm.f81
theorem Ok.leastS {P : Int → Option Bool} {q : Nat → Bool} (hP : ∀ s : Nat, s < 2 ^ of.length → P (s : Int) = some (q s)) :
    M.f78 (P, ()) ((n : Int), kn, of) = some (match lst (bfS of) q (2 ^ of.length) with | none => (false, 0, 0) | some t => (true, cS of t, (t : Int))) ∧ ∀ t, lst (bfS of) q (2 ^ of.length) = some t → t < 2 ^ of.length := by
  have hp := hm.pow
  have hlt : ∀ N t, lst (bfS of) q N = some t → t < N := fun N t h => (lst_congr (bf := bfS of) (q := q) (N := N) (fun _ _ => rfl) (fun _ _ _ _ => rfl)).2 t h
  refine ⟨?_, hlt _⟩
  unfold M.f78
  refine bnd hm.shl (bnd (forS_st (fun j => match lst (bfS of) q j with | none => ((false, 0, 0) : S_keeper_choice) | some t => (true, cS of t, (t : Int))) rfl (by omega) fun j hj => ?_) rfl)
  refine bnd (hm.cost hj) ?_
  cases h : lst (bfS of) q j with
  | none =>
    simp only [beq_self_eq_true, Bool.not_true, guardO, Option.bind_eq_bind, Option.bind_some, Bool.true_or, hP j hj, Bool.true_and]
    unfold lst
    rw [h]
    simp only
    cases q j <;> rfl
  | some t =>
    have ht := hlt j t h
    have hz : (((true, cS of t, (t : Int)) : S_keeper_choice) == ((false, 0, 0) : S_keeper_choice)) = false := rfl
    have hb : befL (cS of j) (sel 12 j) (cS of t) (sel 12 t) = bfS of j t := by unfold bfS; rw [hm.selE hj, hm.selE (by omega)]
    simp only [hz, Bool.not_false, guardO, Option.bind_eq_bind, Option.bind_some, Bool.false_or, f117_ok', hb]
    unfold lst
    rw [h]
    simp only
    cases hr : bfS of j t with
    | false => rfl
    | true =>
      simp only [hP j hj, Option.bind_some, Bool.true_and]
      cases q j <;> rfl
theorem Ok.list {P : Int → Option Bool} {q : Nat → Bool} (hP : ∀ s : Nat, s < 2 ^ of.length → P (s : Int) = some (q s)) :
    (M.f78 (P, ()) ((n : Int), kn, of) >>= fun v_5 => M.f85 v_5 >>= fun v_7 => some (v_7.1, v_7.2.1, v_7.2.2)) = some (bestR of q) := by
  obtain ⟨h1, h2⟩ := hm.leastS hP
  refine bnd h1 ?_
  unfold bestR
  cases h : lst (bfS of) q (2 ^ of.length) with
  | none => rfl
  | some t =>
    have hz : (((true, cS of t, (t : Int)) : S_keeper_choice) == ((false, 0, 0) : S_keeper_choice)) = false := rfl
    unfold M.f85
    simp only [hz, Bool.false_eq_true, if_false]
    refine bnd (bnd (f118_eq t) rfl) ?_
    rw [hm.selE (h2 t h)]
theorem Ok.leastR {a b w : Int} {q : Nat → Bool} (hP : ∀ s : Nat, s < 2 ^ of.length → M.f73 1000 ((n : Int), kn, of) (cst (sel of.length s)) a b w = some (q s)) :
    (M.f86 1000 ((n : Int), kn, of) a b w >>= fun v_3 => some (v_3.1, v_3.2, (0 : Int))) = some (bestR of q) := by
  have hp := hm.pow
  unfold M.f86
  refine bnd (bnd (loopM_go (N := 2 ^ of.length) (fun j => match lst (bfS of) q j with | none => ([], false, (j : Int)) | some t => (cst (sel of.length t), true, (j : Int))) (match lst (bfS of) q (2 ^ of.length) with | none => ([], false) | some t => (cst (sel of.length t), true)) rfl (by omega) (fun j hj => ?_) ?_) rfl) ?_
  · refine bnd hm.shl ?_
    have ew : wr ((j : Int) + 1) = ((j + 1 : Nat) : Int) := by rw [wr_id (by omega) (by omega)]; rfl
    have hl := sel_len of.length j
    have h6 := hm.lo
    cases h : lst (bfS of) q j with
    | none =>
      rw [if_pos (by simp only [decide_eq_true_eq]; omega)]
      refine bnd hm.f74 ?_
      simp only [Bool.not_false, Bool.not_true, guardO, Option.bind_eq_bind, Option.bind_some, Bool.true_or, hP j hj, Bool.true_and, ew]
      unfold lst
      rw [h]
      simp only
      cases q j <;> rfl
    | some t =>
      rw [if_pos (by simp only [decide_eq_true_eq]; omega)]
      refine bnd hm.f74 ?_
      have hb : M.f119 1000 ((n : Int), kn, of) (cst (sel of.length j)) (cst (sel of.length t)) = some (bfS of j t) := f119_eq' hm.costR hm.costR (by omega)
      simp only [Bool.not_true, Bool.not_false, guardO, Option.bind_eq_bind, Option.bind_some, Bool.false_or, hb, ew]
      unfold lst
      rw [h]
      simp only
      cases hr : bfS of j t with
      | false => rfl
      | true =>
        simp only [hP j hj, Option.bind_some, Bool.true_and]
        cases q j <;> rfl
  · refine bnd hm.shl ?_
    cases h : lst (bfS of) q (2 ^ of.length) with
    | none => rw [if_neg (by simp only [decide_eq_true_eq]; omega)]
    | some t => rw [if_neg (by simp only [decide_eq_true_eq]; omega)]
  · unfold bestR
    cases lst (bfS of) q (2 ^ of.length) <;> rfl
/-! ### all clocks -/
def togB (n : Nat) (kn of : List S_api_Offer) (w : Int) (s : Nat) : Bool := (List.range n).all fun a => (List.range n).all fun b => decide (WdS n kn of s a b ≤ w)
theorem Ok.f120 {s : Nat} (hs : s < 2 ^ of.length) (w : Int) : M.f120 (s : Int) ((n : Int), kn, of) w = some (togB n kn of w s) := by
  have h8 := hm.n8
  unfold M.f120
  refine bnd (hm.f83 hs) ?_
  unfold togB
  refine bnd (forM_test (N := n) (fun a => (List.range n).all fun b => decide (WdS n kn of s a b ≤ w)) false (by omega) fun a ha _ => ?_) (by
    generalize ((List.range n).all fun a => (List.range n).all fun b => decide (WdS n kn of s a b ≤ w)) = z
    cases z <;> rfl)
  refine bnd (forM_test (N := n) (fun b => decide (WdS n kn of s a b ≤ w)) false (by omega) fun b hb _ => ?_) (by split <;> rfl)
  refine bnd (idx_mat ha) (bnd (idx_row hb) ?_)
  by_cases q : WdS n kn of s a b ≤ w
  · rw [if_neg (by simp; omega), if_pos (by simpa using q)]
  · rw [if_pos (by simp; omega), if_neg (by simpa using q)]
theorem Ok.f73all {s : Nat} (w : Int) : M.f73 1000 ((n : Int), kn, of) (cst (sel of.length s)) (-1) (-1) w = some (togB n kn of (imin w 1099511627775) s) := by
  have h8 := hm.n8
  unfold M.f73
  refine bnd hm.cmps (bnd hm.f101 ?_)
  rw [if_neg (by decide)]
  unfold togB
  refine bnd (loopM_test (N := n) (fun j => (j : Int)) (fun a => (List.range n).all fun b => decide (WdS n kn of s a b ≤ imin w 1099511627775)) (.inr false) (.inl ()) rfl (by omega) (fun a ha _ => ?_) (by rw [if_neg (by simp)])) (by
    generalize ((List.range n).all fun a => (List.range n).all fun b => decide (WdS n kn of s a b ≤ imin w 1099511627775)) = z
    cases z <;> rfl)
  rw [if_pos (by simpa using ha)]
  refine bnd (loopM_test (N := n) (fun j => (j : Int)) (fun b => decide (WdS n kn of s a b ≤ imin w 1099511627775)) (.inr false) (.inl ()) rfl (by omega) (fun b hb _ => ?_) (by rw [if_neg (by simp)])) (by
    rw [wr_id (by omega) (by omega)]; split <;> rfl)
  rw [if_pos (by simpa using hb)]
  refine bnd (idx_mat ha) (bnd (idx_row hb) ?_)
  rw [wr_id (show -9223372036854775808 ≤ (b : Int) + 1 by omega) (by omega), idx_mat ha]
  by_cases q : w < WdS n kn of s a b
  · have e : ¬ WdS n kn of s a b ≤ imin w 1099511627775 := by unfold imin; split <;> omega
    simp [q, e, guardO]
  · simp only [q, decide_false, Bool.not_false, guardO, Option.bind_eq_bind, Option.bind_some, idx_row hb, Bool.false_or]
    by_cases q2 : 1099511627776 ≤ WdS n kn of s a b
    · have e : ¬ WdS n kn of s a b ≤ imin w 1099511627775 := by unfold imin; split <;> omega
      simp [q2, e]
    · have e : WdS n kn of s a b ≤ imin w 1099511627775 := by unfold imin; split <;> omega
      simp [q2, e]
/-! ### what is asked -/
def qW (n : Nat) (kn of : List S_api_Offer) (a b : Nat) (w : Int) (s : Nat) : Bool := decide (WdS n kn of s a b ≤ w)
omit hm in
theorem codeQ_valid {m : S_api_Market} {l cl sz : List Int} (h : codeQ m l cl sz = 0) : validB m = true ∧ boughtB m.2.2.length l = true ∧ cl.all (clockB m.1) = true ∧ sz.all sizeB = true := by
  unfold codeQ at h
  split at h
  · rename_i hv
    split at h
    · rename_i q; simp only [Bool.and_eq_true] at q; exact ⟨hv, q.1.1, q.1.2, q.2⟩
    · cases h
  · cases h
omit hm in
theorem clock_nat {n : Nat} {x : Int} (h : clockB (n : Int) x = true) : ∃ k : Nat, x = (k : Int) ∧ k < n := by
  unfold clockB at h
  simp at h
  exact ⟨x.toNat, by omega, by omega⟩
theorem Ok.f25 {a b : Nat} (ha : a < n) (hb : b < n) {w : Int} (hc : codeQ ((n : Int), kn, of) [] [(a : Int), (b : Int)] [w] = 0) : M.f25 ((n : Int), kn, of) a b w = some (bestR of (qW n kn of a b w)) := by
  unfold M.f25
  refine bnd (f76_eqQ _ _ _ _ (by simp) (by simp) (by simp)) ?_
  rw [hc, if_neg (by decide)]
  exact bnd rfl (hm.list fun s hs => hm.f116 hs ha hb w)
theorem Ok.f26 {a b : Nat} (ha : a < n) (hb : b < n) {w : Int} (hc : codeQ ((n : Int), kn, of) [] [(a : Int), (b : Int)] [w] = 0) : M.f26 1000 ((n : Int), kn, of) a b w = some (bestR of (qW n kn of a b w)) := by
  unfold M.f26
  refine bnd (f72_eqQ _ _ _ _ (by simp) (by simp)) ?_
  rw [hc, if_neg (by decide)]
  have hw := (codeQ_valid hc).2.2.2
  unfold sizeB at hw
  simp at hw
  exact hm.leastR fun s hs => hm.f73 ha hb w hw.2
theorem Ok.f27 {w : Int} (hc : codeQ ((n : Int), kn, of) [] [] [w] = 0) : M.f27 ((n : Int), kn, of) w = some (bestR of (togB n kn of w)) := by
  unfold M.f27
  refine bnd (f76_eqQ _ _ _ _ (by simp) (by simp) (by simp)) ?_
  rw [hc, if_neg (by decide)]
  exact bnd rfl (hm.list fun s hs => hm.f120 hs w)
theorem Ok.f28 {w : Int} (hc : codeQ ((n : Int), kn, of) [] [] [w] = 0) : M.f28 1000 ((n : Int), kn, of) w = some (bestR of (togB n kn of w)) := by
  unfold M.f28
  refine bnd (f72_eqQ _ _ _ _ (by simp) (by simp)) ?_
  rw [hc, if_neg (by decide)]
  have hw := (codeQ_valid hc).2.2.2
  unfold sizeB at hw
  simp at hw
  have e : imin w 1099511627775 = w := by unfold imin; rw [if_neg (by omega)]
  have := hm.leastR (a := -1) (b := -1) (w := w) (q := togB n kn of w) fun s hs => by rw [hm.f73all w, e]
  exact this
theorem Ok.f29 (hv : validB ((n : Int), kn, of) = true) : M.f29 ((n : Int), kn, of) = some (bestR of (togB n kn of 1099511627775)) := by
  unfold M.f29
  refine bnd (f41_eq _) ?_
  rw [if_pos hv, if_neg (by decide)]
  exact bnd rfl (hm.list fun s hs => hm.f120 hs _)
theorem Ok.f30 (hv : validB ((n : Int), kn, of) = true) : M.f30 1000 ((n : Int), kn, of) = some (bestR of (togB n kn of 1099511627775)) := by
  unfold M.f30
  refine bnd (f72_eqQ _ _ _ _ (by simp) (by simp)) ?_
  have : codeQ ((n : Int), kn, of) [] [] [0] = 0 := by unfold codeQ; rw [if_pos hv]; rfl
  rw [this, if_neg (by decide)]
  have := hm.leastR (a := -1) (b := -1) (w := 1099511627776) (q := togB n kn of 1099511627775) fun s hs => by rw [hm.f73all _]; rfl
  exact this
end
theorem f24_eq (l l' : List Int) (h : l.length ≤ 4096) : M.f24 l l' = some (l == l') := by
  unfold M.f24
  by_cases q : l.length = l'.length
  · rw [if_neg (by simp; omega)]
    refine bnd (forM_test (N := l.length) (fun j => l[j]?.getD 0 == l'[j]?.getD 0) false (by omega) fun j hj _ => ?_) ?_
    · rw [idx_nat, idx_nat, List.getElem?_eq_getElem hj, List.getElem?_eq_getElem (show j < l'.length by omega)]
      simp only [Option.bind_eq_bind, Option.bind_some, Option.getD_some]
      by_cases hq : l[j] = l'[j] <;> simp [hq]
    · have e : (List.range l.length).all (fun j => l[j]?.getD 0 == l'[j]?.getD 0) = (l == l') := by
        apply Bool.eq_iff_iff.2
        rw [beq_iff_eq, List.all_eq_true]
        constructor
        · intro h
          apply List.ext_getElem q
          intro i h1 h2
          have := h i (by simpa using h1)
          simpa [h1, h2] using this
        · rintro rfl j _; simp
      rw [e]
      cases l == l' <;> rfl
  · rw [if_pos (by simp; omega)]
    congr 1
    symm
    rw [beq_eq_false_iff_ne]
    intro e; exact q (by rw [e])
/-- What a market of few offers is, if it is valid. -/
theorem few_cases {m : S_api_Market} (hf : m.2.2.length ≤ 6 ∨ 12 < m.2.2.length) (hv : validB m = true) : ∃ (n : Nat) (kn of : List S_api_Offer), m = ((n : Int), kn, of) ∧ Ok n kn of := by
  have h6 : m.2.2.length ≤ 6 := by
    rcases hf with hf | hf
    · exact hf
    · unfold validB at hv; simp at hv; omega
  obtain ⟨n, hn, hm⟩ := ok_of hv h6
  obtain ⟨c, kn, of⟩ := m
  have hn : c = (n : Int) := hn
  subst hn
  exact ⟨n, kn, of, rfl, hm⟩
theorem bestR_len (of : List S_api_Offer) (q : Nat → Bool) : (bestR of q).1.length ≤ of.length := by
  unfold bestR
  cases lst (bfS of) q (2 ^ of.length) with
  | none => simp
  | some t => simp only [cst_length]; exact sel_len _ _
theorem best_same {m : S_api_Market} (hf : m.2.2.length ≤ 6 ∨ 12 < m.2.2.length) (a b w : Int) : ∃ r, M.f25 m a b w = some r ∧ M.f26 1000 m a b w = some r ∧ r.1.length ≤ 900 := by
  by_cases hc : codeQ m [] [a, b] [w] = 0
  · have hv : validB m = true := by
      unfold codeQ at hc
      split at hc
      · assumption
      · cases hc
    obtain ⟨n, kn, of, rfl, hm⟩ := few_cases hf hv
    obtain ⟨_, _, h3, _⟩ := codeQ_valid hc
    simp only [List.all_cons, List.all_nil, Bool.and_true, Bool.and_eq_true] at h3
    obtain ⟨a, rfl, ha⟩ := clock_nat h3.1
    obtain ⟨b, rfl, hb⟩ := clock_nat h3.2
    have := hm.lo
    exact ⟨_, hm.f25 ha hb hc, hm.f26 ha hb hc, Nat.le_trans (bestR_len _ _) (by omega)⟩
  · refine ⟨([], false, codeQ m [] [a, b] [w]), ?_, ?_, by simp⟩
    · unfold M.f25
      refine bnd (f76_eqQ _ _ _ _ (by simp) (by simp) (by simp)) ?_
      rw [if_pos (by simpa using hc)]
    · unfold M.f26
      refine bnd (f72_eqQ _ _ _ _ (by simp) (by simp)) ?_
      rw [if_pos (by simpa using hc)]
theorem together_same {m : S_api_Market} (hf : m.2.2.length ≤ 6 ∨ 12 < m.2.2.length) (w : Int) : ∃ r, M.f27 m w = some r ∧ M.f28 1000 m w = some r ∧ r.1.length ≤ 900 := by
  by_cases hc : codeQ m [] [] [w] = 0
  · have hv : validB m = true := by
      unfold codeQ at hc
      split at hc
      · assumption
      · cases hc
    obtain ⟨n, kn, of, rfl, hm⟩ := few_cases hf hv
    have := hm.lo
    exact ⟨_, hm.f27 hc, hm.f28 hc, Nat.le_trans (bestR_len _ _) (by omega)⟩
  · refine ⟨([], false, codeQ m [] [] [w]), ?_, ?_, by simp⟩
    · unfold M.f27
      refine bnd (f76_eqQ _ _ _ _ (by simp) (by simp) (by simp)) ?_
      rw [if_pos (by simpa using hc)]
    · unfold M.f28
      refine bnd (f72_eqQ _ _ _ _ (by simp) (by simp)) ?_
      rw [if_pos (by simpa using hc)]
theorem tree_same {m : S_api_Market} (hf : m.2.2.length ≤ 6 ∨ 12 < m.2.2.length) : ∃ r, M.f29 m = some r ∧ M.f30 1000 m = some r ∧ r.1.length ≤ 900 := by
  by_cases hv : validB m = true
  · obtain ⟨n, kn, of, rfl, hm⟩ := few_cases hf hv
    have := hm.lo
    exact ⟨_, hm.f29 hv, hm.f30 hv, Nat.le_trans (bestR_len _ _) (by omega)⟩
  · refine ⟨([], false, 80), ?_, ?_, by simp⟩
    · unfold M.f29
      refine bnd (f41_eq _) ?_
      rw [if_neg hv]; rfl
    · unfold M.f30
      refine bnd (f72_eqQ _ _ _ _ (by simp) (by simp)) ?_
      unfold codeQ
      rw [if_neg hv]; rfl
end Go.Proofs.Ytkbilbeaedocjaa
