/-
  What is proved: what Width, Cost and Widths answer on valid markets of few offers.
-/
import Derived.Test.YtjlagmcdoobimaaGreatKeepH
import Derived.Test.YtjlagmcdoobimaaGreatModelB2
namespace Go.Proofs.YtjlagmcdoobimaaGreat
open Go Go.Proofs.YtjlagmcdoobimaaGreat.Wh
set_option maxRecDepth 100000

theorem codeQ_zero {m : S_api_Market} {l cl sz : List Int} (hv : validB m = true) (h1 : boughtB m.2.2.length l = true) (h2 : cl.all (clockB m.1) = true) (h3 : sz.all sizeB = true) : codeQ m l cl sz = 0 := by
  unfold codeQ
  rw [if_pos hv, h1, h2, h3]; rfl
def widthR (W : Int) : Int × Bool × Int := if 1099511627776 ≤ W then (0, false, 0) else (W, true, 0)
section
variable {n : Nat} {kn of : List S_api_Offer} (hm : Ok n kn of)
include hm
theorem Ok.set {s : Nat} (hs : s < 2 ^ of.length) : M.f34 (cst (sel of.length s)) = some (s : Int) := by
  have h6 := hm.lo
  have := sel_len of.length s
  rw [f34_eq (fun i hi => by have := sel_lt hi; omega) (by omega), bset_sel hs]
theorem Ok.f9 {s a b : Nat} (hs : s < 2 ^ of.length) (ha : a < n) (hb : b < n) (hc : codeQ ((n : Int), kn, of) (cst (sel of.length s)) [(a : Int), (b : Int)] [] = 0) : M.f9 ((n : Int), kn, of) (cst (sel of.length s)) a b = some (widthR (WdS n kn of s a b)) := by
  have h6 := hm.lo
  have := sel_len of.length s
  unfold M.f9 widthR
  refine bnd (f32_eqQ _ _ _ _ (by rw [cst_length]; omega) (by simp) (by simp)) ?_
  rw [hc, if_neg (by decide)]
  refine bnd (hm.set hs) (bnd (hm.f33 hs) (bnd (idx_mat ha) (bnd (idx_row hb) ?_)))
  by_cases q : 1099511627776 ≤ WdS n kn of s a b
  · rw [if_pos (by simpa using q), if_pos q]
  · rw [if_neg (by simpa using q), if_neg q]
    exact bnd (idx_mat ha) (bnd (idx_row hb) rfl)
/-- Widths, with -1 for what is not known. -/
def wdl (W : Int) : Int := if 1099511627776 ≤ W then -1 else W
theorem Ok.f6 {s : Nat} (hs : s < 2 ^ of.length) (hc : codeQ ((n : Int), kn, of) (cst (sel of.length s)) [] [] = 0) : M.f6 ((n : Int), kn, of) (cst (sel of.length s)) = some (mat n (fun a b => wdl (WdS n kn of s a b)), 0) := by
  have h6 := hm.lo
  have h8 := hm.n8
  have := sel_len of.length s
  unfold M.f6
  refine bnd (f32_eqQ _ _ _ _ (by rw [cst_length]; omega) (by simp) (by simp)) ?_
  rw [hc, if_neg (by decide)]
  refine bnd (hm.set hs) (bnd (hm.f33 hs) (bnd (forS_st (fun j => (List.range j).map fun a => (List.range n).map fun b => wdl (WdS n kn of s a b)) rfl (by omega) fun a ha => ?_) rfl))
  refine bnd (forS_st (fun j => (List.range j).map fun b => wdl (WdS n kn of s a b)) rfl (by omega) fun b hb => ?_) ?_
  · refine bnd (idx_mat ha) (bnd (idx_row hb) ?_)
    rw [List.range_succ, List.map_append, List.map_cons, List.map_nil]
    unfold wdl
    by_cases q : 1099511627776 ≤ WdS n kn of s a b
    · rw [if_pos (by simpa using q), if_pos q]
      exact bnd (bnd (app_one (by simp; omega)) rfl) rfl
    · rw [if_neg (by simpa using q), if_neg q]
      exact bnd (bnd (idx_mat ha) (bnd (idx_row hb) (bnd (app_one (by simp; omega)) rfl))) rfl
  · rw [List.range_succ, List.map_append, List.map_cons, List.map_nil]
    exact bnd (app_one (by simp; omega)) rfl
end
theorem short_eq (ls : List (List Int)) (hl : ls.length ≤ 4096) : M.f27 ls = some (ls.all fun l => decide (l.length ≤ 100)) := by
  unfold M.f27
  have : M.f7 ls (fun x0 => M.f56 x0) = some (!(ls.all fun l => decide (l.length ≤ 100))) := by
    unfold M.f7 M.f35
    refine bnd (y := match (List.range ls.length).findSome? (fun (j : Nat) => if (ls[j]?.getD []).length ≤ 100 then none else some (j : Int)) with | none => (-1 : Int) | some r => r) (bnd (forM_st (fun _ => ()) (fun j => if (ls[j]?.getD []).length ≤ 100 then none else some (j : Int)) rfl (by omega) fun j hj _ => ?_) ?_) ?_
    · rw [idx_nat, List.getElem?_eq_getElem hj]
      simp only [Option.bind_eq_bind, Option.bind_some, Option.getD_some]
      unfold M.f56
      by_cases q : (ls[j]).length ≤ 100
      · have q' : ¬ ((100 : Int) < (ls[j].length : Int)) := by omega
        simp [q, q']
      · have q' : ((100 : Int) < (ls[j].length : Int)) := by omega
        simp [q, q']
    · cases (List.range ls.length).findSome? (fun (j : Nat) => if (ls[j]?.getD []).length ≤ 100 then none else some (j : Int)) <;> rfl
    · rw [← all_range ls (fun l => decide (l.length ≤ 100)) (fun j => decide ((ls[j]?.getD []).length ≤ 100)) (fun j x hx => by rw [hx]; rfl)]
      generalize hr : (List.range ls.length) = r
      clear hr
      have key : (∃ k : Nat, r.findSome? (fun (j : Nat) => if (ls[j]?.getD []).length ≤ 100 then none else some (j : Int)) = some (k : Int) ∧ (r.all fun j => decide ((ls[j]?.getD []).length ≤ 100)) = false) ∨ (r.findSome? (fun (j : Nat) => if (ls[j]?.getD []).length ≤ 100 then none else some (j : Int)) = none ∧ (r.all fun j => decide ((ls[j]?.getD []).length ≤ 100)) = true) := by
        induction r with
        | nil => exact .inr ⟨rfl, rfl⟩
        | cons i r ih =>
          rw [List.findSome?_cons, List.all_cons]
          by_cases q : (ls[i]?.getD []).length ≤ 100
          · simp only [q, if_true, decide_true, Bool.true_and]; exact ih
          · simp only [q, if_false, decide_false, Bool.false_and]; exact .inl ⟨i, rfl, trivial⟩
      rcases key with ⟨k, h1, h2⟩ | ⟨h1, h2⟩
      · rw [h1, h2]; simp
      · rw [h1, h2]; rfl
  refine bnd this ?_
  rw [Bool.not_not]
end Go.Proofs.YtjlagmcdoobimaaGreat
