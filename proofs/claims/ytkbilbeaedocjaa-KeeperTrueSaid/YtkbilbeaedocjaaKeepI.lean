/-
  What is proved: what Width, Cost and Widths answer on valid markets of few offers.
-/
import Derived.Test.YtkbilbeaedocjaaKeepH
import Derived.Test.YtkbilbeaedocjaaModelE
namespace Go.Proofs.Ytkbilbeaedocjaa
open Go Go.Proofs.Ytkbilbeaedocjaa.Wh
set_option maxRecDepth 100000

theorem codeQ_zero {m : S_api_Market} {l cl sz : List Int} (hv : validB m = true) (h1 : boughtB m.2.2.length l = true) (h2 : cl.all (clockB m.1) = true) (h3 : sz.all sizeB = true) : codeQ m l cl sz = 0 := by
  unfold codeQ
  rw [if_pos hv, h1, h2, h3]; rfl
def widthR (W : Int) : Int × Bool × Int := if 1099511627776 ≤ W then (0, false, 0) else (W, true, 0)
section
variable {n : Nat} {kn of : List S_api_Offer} (hm : Ok n kn of)
include hm
theorem Ok.set {s : Nat} (hs : s < 2 ^ of.length) : M.f92 (cst (sel of.length s)) = some (s : Int) := by
  have h6 := hm.lo
  have := sel_len of.length s
  rw [f92_eq (fun i hi => by have := sel_lt hi; omega) (by omega), bset_sel hs]
theorem Ok.f33 {s a b : Nat} (hs : s < 2 ^ of.length) (ha : a < n) (hb : b < n) (hc : codeQ ((n : Int), kn, of) (cst (sel of.length s)) [(a : Int), (b : Int)] [] = 0) : M.f33 ((n : Int), kn, of) (cst (sel of.length s)) a b = some (widthR (WdS n kn of s a b)) := by
  have h6 := hm.lo
  have := sel_len of.length s
  unfold M.f33 widthR
  refine bnd (f76_eqQ _ _ _ _ (by rw [cst_length]; omega) (by simp) (by simp)) ?_
  rw [hc, if_neg (by decide)]
  refine bnd (hm.set hs) (bnd (hm.f83 hs) (bnd (idx_mat ha) (bnd (idx_row hb) ?_)))
  by_cases q : 1099511627776 ≤ WdS n kn of s a b
  · rw [if_pos (by simpa using q), if_pos q]
  · rw [if_neg (by simpa using q), if_neg q]
    exact bnd (idx_mat ha) (bnd (idx_row hb) rfl)
theorem Ok.f56 {s a b : Nat} (ha : a < n) (hb : b < n) (hc : codeQ ((n : Int), kn, of) (cst (sel of.length s)) [(a : Int), (b : Int)] [] = 0) : M.f56 1000 ((n : Int), kn, of) (cst (sel of.length s)) a b = some (widthR (WdS n kn of s a b)) := by
  have h6 := hm.lo
  have := sel_len of.length s
  unfold M.f56 widthR
  refine bnd (f72_eqQ _ _ _ _ (by rw [cst_length]; omega) (by simp)) ?_
  obtain ⟨h1, h2, h3, _⟩ := codeQ_valid hc
  rw [codeQ_zero h1 h2 h3 (by rfl), if_neg (by decide)]
  refine bnd (hm.f84 ha hb) ?_
  by_cases q : 1099511627776 ≤ WdS n kn of s a b
  · rw [if_pos (by simpa using q), if_pos q]
  · rw [if_neg (by simpa using q), if_neg q]
theorem Ok.f37 {s : Nat} (hs : s < 2 ^ of.length) (hc : codeQ ((n : Int), kn, of) (cst (sel of.length s)) [] [] = 0) : M.f37 ((n : Int), kn, of) (cst (sel of.length s)) = some (cS of s, 0) := by
  have h6 := hm.lo
  have := sel_len of.length s
  unfold M.f37
  refine bnd (f76_eqQ _ _ _ _ (by rw [cst_length]; omega) (by simp) (by simp)) ?_
  rw [hc, if_neg (by decide)]
  exact bnd (hm.set hs) (bnd (hm.cost hs) rfl)
theorem Ok.f57 {s : Nat} (hc : codeQ ((n : Int), kn, of) (cst (sel of.length s)) [] [] = 0) : M.f57 1000 ((n : Int), kn, of) (cst (sel of.length s)) = some (cS of s, 0) := by
  have h6 := hm.lo
  have := sel_len of.length s
  unfold M.f57
  refine bnd (f72_eqQ _ _ _ _ (by rw [cst_length]; omega) (by simp)) ?_
  obtain ⟨h1, h2, h3, _⟩ := codeQ_valid hc
  rw [codeQ_zero h1 h2 h3 (by rfl), if_neg (by decide)]
  exact bnd hm.costR rfl
/-- Widths, with -1 for what is not known. -/
def wdl (W : Int) : Int := if 1099511627776 ≤ W then -1 else W
omit hm in
theorem app_snoc {α : Type} {xs : List α} {x : α} (h : xs.length ≤ 4096) : app xs [x] = some (xs ++ [x]) := app_one h
theorem Ok.f58 {s : Nat} (hs : s < 2 ^ of.length) (hc : codeQ ((n : Int), kn, of) (cst (sel of.length s)) [] [] = 0) : M.f58 ((n : Int), kn, of) (cst (sel of.length s)) = some (mat n (fun a b => wdl (WdS n kn of s a b)), 0) := by
  have h6 := hm.lo
  have h8 := hm.n8
  have := sel_len of.length s
  unfold M.f58
  refine bnd (f76_eqQ _ _ _ _ (by rw [cst_length]; omega) (by simp) (by simp)) ?_
  rw [hc, if_neg (by decide)]
  refine bnd (hm.set hs) (bnd (hm.f83 hs) (bnd (forS_st (fun j => (List.range j).map fun a => (List.range n).map fun b => wdl (WdS n kn of s a b)) rfl (by omega) fun a ha => ?_) rfl))
  refine bnd (forS_st (fun j => (List.range j).map fun b => wdl (WdS n kn of s a b)) rfl (by omega) fun b hb => ?_) ?_
  · refine bnd (idx_mat ha) (bnd (idx_row hb) ?_)
    rw [List.range_succ, List.map_append, List.map_cons, List.map_nil]
    unfold wdl
    by_cases q : 1099511627776 ≤ WdS n kn of s a b
    · rw [if_pos (by simpa using q), if_pos q]
      exact bnd (bnd (app_one (by simp; omega)) rfl) rfl
    · rw [if_neg (by simpa using q), if_neg q]
      exact bnd (bnd (idx_mat ha) (bnd (idx_row hb) (bnd (app_one (by simp; omega)) rfl))) rfl
  · rw [List.range_succ, List.map_append, List.map_cons, List.map_nil]
    exact bnd (app_one (by simp; omega)) rfl
theorem Ok.f59 {s : Nat} (hc : codeQ ((n : Int), kn, of) (cst (sel of.length s)) [] [] = 0) : M.f59 1000 ((n : Int), kn, of) (cst (sel of.length s)) = some (mat n (fun a b => wdl (WdS n kn of s a b)), 0) := by
  have h6 := hm.lo
  have h8 := hm.n8
  have := sel_len of.length s
  unfold M.f59
  refine bnd (f72_eqQ _ _ _ _ (by rw [cst_length]; omega) (by simp)) ?_
  obtain ⟨h1, h2, h3, _⟩ := codeQ_valid hc
  rw [codeQ_zero h1 h2 h3 (by rfl), if_neg (by decide)]
  refine bnd hm.cmps (bnd hm.f101 ?_)
  generalize WdS n kn of s = W
  refine bnd (loopM_go (N := n) (fun i => ((i : Int), mat n (fun a b => if a < i then wdl (W a b) else W a b))) (mat n (fun a b => wdl (W a b))) (by simp) (by omega) (fun a ha => ?_) ?_) rfl
  · rw [if_pos (by simpa using ha)]
    refine bnd (loopM_go (N := n) (fun j => ((j : Int), mat n (fun x y => if x < a ∨ (x = a ∧ y < j) then wdl (W x y) else W x y))) (mat n (fun x y => if x < a + 1 then wdl (W x y) else W x y)) ?_ (by omega) (fun b hb => ?_) ?_) ?_
    · simp
    · rw [if_pos (by simpa using hb)]
      refine bnd (idx_mat ha) (bnd (idx_row hb) ?_)
      refine bnd (y := mat n (fun x y => if x < a ∨ (x = a ∧ y < b + 1) then wdl (W x y) else W x y)) ?_ ?_
      rotate_left
      · rw [wr_id (show -9223372036854775808 ≤ (b : Int) + 1 by omega) (by omega)]; rfl
      rw [if_neg (show ¬ (a < a ∨ (a = a ∧ b < b)) by omega)]
      by_cases q : 1099511627776 ≤ W a b
      · rw [if_pos (by simpa using q)]
        refine bnd (idx_mat ha) (bnd (idx_row hb) (bnd (set2_mat ha hb) ?_))
        congr 1
        apply mat_congr
        intro x y hx hy
        unfold updM
        by_cases q2 : x = a ∧ y = b
        · obtain ⟨rfl, rfl⟩ := q2
          rw [if_pos ⟨rfl, rfl⟩, if_pos (by omega)]
          unfold wdl; rw [if_pos q]
        · rw [if_neg q2]
          show (if x < a ∨ (x = a ∧ y < b) then wdl (W x y) else W x y) = _
          by_cases q3 : x < a ∨ (x = a ∧ y < b)
          · rw [if_pos q3, if_pos (by omega)]
          · rw [if_neg q3, if_neg (by omega)]
      · rw [if_neg (by simpa using q)]
        congr 1
        apply mat_congr
        intro x y hx hy
        by_cases q2 : x = a ∧ y = b
        · obtain ⟨rfl, rfl⟩ := q2
          rw [if_neg (by omega), if_pos (by omega)]
          unfold wdl; rw [if_neg q]
        · by_cases q3 : x < a ∨ (x = a ∧ y < b)
          · rw [if_pos q3, if_pos (by omega)]
          · rw [if_neg q3, if_neg (by omega)]
    · rw [if_neg (by simp)]
      congr 2
      apply mat_congr
      intro x y hx hy
      by_cases q : x < a + 1
      · rw [if_pos (by omega), if_pos q]
      · rw [if_neg (by omega), if_neg q]
    · rw [wr_id (by omega) (by omega)]; rfl
  · rw [if_neg (by simp)]
    congr 2
    apply mat_congr
    intro x y hx hy
    rw [if_pos hx]
end
/-- Equal lists of lists. -/
theorem f60_same (n : Nat) (hn : n ≤ 900) (F : Nat → Nat → Int) : M.f60 1000 (mat n F) (mat n F) = some true := by
  unfold M.f60
  rw [if_neg (by simp)]
  have hl : (mat n F).length = n := by simp [mat]
  refine bnd (loopM_go (N := n) (fun j => (j : Int)) (.inl ()) rfl (by omega) (fun a ha => ?_) ?_) rfl
  · rw [if_pos (by rw [hl]; simpa using ha)]
    refine bnd (idx_mat ha) (bnd (idx_mat ha) ?_)
    rw [if_neg (by simp)]
    refine bnd (loopM_go (N := n) (fun j => (j : Int)) (.inl ()) rfl (by omega) (fun b hb => ?_) ?_) ?_
    · refine bnd (idx_mat ha) ?_
      rw [if_pos (by simpa using hb)]
      refine bnd (idx_mat ha) (bnd (idx_row hb) (bnd (idx_mat ha) (bnd (idx_row hb) ?_)))
      rw [if_neg (by simp), wr_id (by omega) (by omega)]; rfl
    · refine bnd (idx_mat ha) ?_
      rw [if_neg (by simp)]
    · rw [wr_id (by omega) (by omega)]; rfl
  · rw [if_neg (by rw [hl]; simp)]
theorem short_eq (ls : List (List Int)) (hl : ls.length ≤ 4096) : M.f55 ls = some (ls.all fun l => decide (l.length ≤ 100)) := by
  unfold M.f55
  have : M.f106 ls (fun x0 => M.f107 x0) = some (!(ls.all fun l => decide (l.length ≤ 100))) := by
    unfold M.f106 M.f126
    refine bnd (y := match (List.range ls.length).findSome? (fun (j : Nat) => if (ls[j]?.getD []).length ≤ 100 then none else some (j : Int)) with | none => (-1 : Int) | some r => r) (bnd (forM_st (fun _ => ()) (fun j => if (ls[j]?.getD []).length ≤ 100 then none else some (j : Int)) rfl (by omega) fun j hj _ => ?_) ?_) ?_
    · rw [idx_nat, List.getElem?_eq_getElem hj]
      simp only [Option.bind_eq_bind, Option.bind_some, Option.getD_some]
      unfold M.f107
      by_cases q : (ls[j]).length ≤ 100
      · have q' : ¬ ((100 : Int) < (ls[j].length : Int)) := by omega
        simp [q, q']
      · have q' : ((100 : Int) < (ls[j].length : Int)) := by omega
        simp [q, q']
    · cases (List.range ls.length).findSome? (fun (j : Nat) => if (ls[j]?.getD []).length ≤ 100 then none else some (j : Int)) <;> rfl
    · rw [← all_range ls (fun l => decide (l.length ≤ 100)) (fun j => decide ((ls[j]?.getD []).length ≤ 100)) (fun j x hx => by rw [hx]; rfl)]
      generalize hr : (List.range ls.length) = r
      clear hr
      have key : (∃ k : Nat, r.findSome? (fun (j : Nat) => if (ls[j]?.getD []).length ≤ 100 then none else some (j : Int)) = some (k : Int) ∧ (r.all fun j => decide ((ls[j]?.getD []).length ≤ 100)) = false) ∨ (r.findSome? (fun (j : Nat) => if (ls[j]?.getD []).length ≤ 100 then none else some (j : Int)) = none ∧ (r.all fun j => decide ((ls[j]?.getD []).length ≤ 100)) = true) := by
        induction r with
        | nil => exact .inr ⟨rfl, rfl⟩
        | cons i r ih =>
          rw [List.findSome?_cons, List.all_cons]
          by_cases q : (ls[i]?.getD []).length ≤ 100
          · simp only [q, if_true, decide_true, Bool.true_and]; exact ih
          · simp only [q, if_false, decide_false, Bool.false_and]; exact .inl ⟨i, rfl, trivial⟩
      rcases key with ⟨k, h1, h2⟩ | ⟨h1, h2⟩
      · rw [h1, h2]; simp
      · rw [h1, h2]; rfl
  refine bnd this ?_
  rw [Bool.not_not]
/-- What is asked, answered alike, behind the tests of the law. -/
theorem asked_cases {m : S_api_Market} (hf : m.2.2.length ≤ 6 ∨ 12 < m.2.2.length) {l cl sz : List Int} (hc : codeQ m l cl sz = 0) : ∃ (n : Nat) (kn of : List S_api_Offer) (s : Nat), m = ((n : Int), kn, of) ∧ Ok n kn of ∧ s < 2 ^ of.length ∧ l = cst (sel of.length s) ∧ cl.all (clockB (n : Int)) = true ∧ sz.all sizeB = true := by
  have hv : validB m = true := by
    unfold codeQ at hc
    split at hc
    · assumption
    · cases hc
  obtain ⟨n, kn, of, rfl, hm⟩ := few_cases hf hv
  obtain ⟨_, h2, h3, h4⟩ := codeQ_valid hc
  obtain ⟨s, hs, hl⟩ := bought_set h2
  exact ⟨n, kn, of, s, rfl, hm, hs, hl, h3, h4⟩
theorem width_same {m : S_api_Market} (hf : m.2.2.length ≤ 6 ∨ 12 < m.2.2.length) {l : List Int} (hl : l.length ≤ 100) (a b : Int) : ∃ r, M.f33 m l a b = some r ∧ M.f56 1000 m l a b = some r := by
  by_cases hc : codeQ m l [a, b] [] = 0
  · obtain ⟨n, kn, of, s, rfl, hm, hs, rfl, h3, _⟩ := asked_cases hf hc
    simp only [List.all_cons, List.all_nil, Bool.and_true, Bool.and_eq_true] at h3
    obtain ⟨a, rfl, ha⟩ := clock_nat h3.1
    obtain ⟨b, rfl, hb⟩ := clock_nat h3.2
    exact ⟨_, hm.f33 hs ha hb hc, hm.f56 ha hb hc⟩
  · have e : codeQ m l [a, b] [0] = codeQ m l [a, b] [] := by unfold codeQ; rfl
    refine ⟨(0, false, codeQ m l [a, b] []), ?_, ?_⟩
    · unfold M.f33
      refine bnd (f76_eqQ _ _ _ _ (by omega) (by simp) (by simp)) ?_
      rw [if_pos (by simpa using hc)]
    · unfold M.f56
      refine bnd (f72_eqQ _ _ _ _ (by omega) (by simp)) ?_
      rw [e, if_pos (by simpa using hc)]
theorem cost_same {m : S_api_Market} (hf : m.2.2.length ≤ 6 ∨ 12 < m.2.2.length) {l : List Int} (hl : l.length ≤ 100) : ∃ r, M.f37 m l = some r ∧ M.f57 1000 m l = some r := by
  by_cases hc : codeQ m l [] [] = 0
  · obtain ⟨n, kn, of, s, rfl, hm, hs, rfl, h3, _⟩ := asked_cases hf hc
    exact ⟨_, hm.f37 hs hc, hm.f57 hc⟩
  · have e : codeQ m l [] [0] = codeQ m l [] [] := by unfold codeQ; rfl
    refine ⟨(0, codeQ m l [] []), ?_, ?_⟩
    · unfold M.f37
      refine bnd (f76_eqQ _ _ _ _ (by omega) (by simp) (by simp)) ?_
      rw [if_pos (by simpa using hc)]
    · unfold M.f57
      refine bnd (f72_eqQ _ _ _ _ (by omega) (by simp)) ?_
      rw [e, if_pos (by simpa using hc)]
theorem widths_same {m : S_api_Market} (hf : m.2.2.length ≤ 6 ∨ 12 < m.2.2.length) {l : List Int} (hl : l.length ≤ 100) : ∃ r, M.f58 m l = some r ∧ M.f59 1000 m l = some r ∧ ∃ n F, n ≤ 900 ∧ r.1 = mat n F := by
  by_cases hc : codeQ m l [] [] = 0
  · obtain ⟨n, kn, of, s, rfl, hm, hs, rfl, h3, _⟩ := asked_cases hf hc
    have := hm.n8
    exact ⟨_, hm.f58 hs hc, hm.f59 hc, n, _, by omega, rfl⟩
  · have e : codeQ m l [] [0] = codeQ m l [] [] := by unfold codeQ; rfl
    refine ⟨([], codeQ m l [] []), ?_, ?_, 0, fun _ _ => 0, by omega, rfl⟩
    · unfold M.f58
      refine bnd (f76_eqQ _ _ _ _ (by omega) (by simp) (by simp)) ?_
      rw [if_pos (by simpa using hc)]
    · unfold M.f59
      refine bnd (f72_eqQ _ _ _ _ (by omega) (by simp)) ?_
      rw [e, if_pos (by simpa using hc)]
end Go.Proofs.Ytkbilbeaedocjaa
