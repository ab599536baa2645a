/-
  What is proved: what is within reach, what is needed, and the least widths: keeper and the specification agree.
-/
import Derived.Test.YtkbilbeaedocjaaKeepD
namespace Go.Proofs.Ytkbilbeaedocjaa
open Go Go.Proofs.Ytkbilbeaedocjaa.Wh

/-- A valid market of few offers. -/
structure Ok (n : Nat) (kn of : List S_api_Offer) : Prop where
  n2 : 2 ≤ n
  n8 : n ≤ 8
  lk : kn.length ≤ 24
  lo : of.length ≤ 6
  k : ∀ o ∈ kn, okB (n : Int) 0 o = true
  o : ∀ o ∈ of, okB (n : Int) 10000 o = true
theorem ok_of {m : S_api_Market} (hv : validB m = true) (hf : m.2.2.length ≤ 6) : ∃ n : Nat, m.1 = (n : Int) ∧ Ok n m.2.1 m.2.2 := by
  unfold validB at hv
  simp only [Bool.and_eq_true, decide_eq_true_eq, List.all_eq_true] at hv
  obtain ⟨⟨⟨⟨⟨h1, h2⟩, h3⟩, h4⟩, h5⟩, h6⟩ := hv
  refine ⟨m.1.toNat, by omega, by omega, by omega, h3, hf, ?_, ?_⟩
  · rw [show ((m.1.toNat : Nat) : Int) = m.1 from by omega]; exact h5
  · rw [show ((m.1.toNat : Nat) : Int) = m.1 from by omega]; exact h6
theorem Ok.pos {n : Nat} {kn of : List S_api_Offer} (_ : Ok n kn of) : 0 < 2 ^ of.length := Nat.pow_pos (by decide)
section
variable {n : Nat} {kn of : List S_api_Offer} (hm : Ok n kn of)
include hm
theorem Ok.selE {s : Nat} (hs : s < 2 ^ of.length) : sel 12 s = sel of.length s := sel_12 (by have := hm.lo; omega) hs
theorem Ok.okC {l : List Nat} : ∀ o ∈ kn ++ picks of l, OkC n o := by
  intro o ho
  rcases List.mem_append.1 ho with ho | ho
  · exact okC_of (hm.k o ho)
  · unfold picks at ho
    obtain ⟨i, _, hi⟩ := List.mem_filterMap.1 ho
    exact okC_of (hm.o o (List.mem_of_getElem? hi))
/-- The width of two clocks behind buying offers by bits. -/
def WdS (n : Nat) (kn of : List S_api_Offer) (s : Nat) : Nat → Nat → Int := Wd n (kn ++ picks of (sel of.length s))
theorem Ok.f83 {s : Nat} (hs : s < 2 ^ of.length) : M.f83 ((n : Int), kn, of) (s : Int) = some (mat n (WdS n kn of s)) := by
  unfold WdS
  rw [← hm.selE hs]
  exact f83_eq hm.n2 hm.n8 hm.lk (by rw [hm.selE hs]; intro i hi; exact sel_lt hi) hm.okC
theorem Ok.f116 {s a b : Nat} (hs : s < 2 ^ of.length) (ha : a < n) (hb : b < n) (w : Int) : M.f116 (s : Int) ((n : Int), kn, of) (a : Int) (b : Int) w = some (decide (WdS n kn of s a b ≤ w)) := by
  unfold M.f116
  refine bnd (hm.f83 hs) (bnd (idx_mat ha) (bnd (idx_row hb) rfl))
theorem Ok.cmps {s : Nat} : M.f102 1000 ((n : Int), kn, of) (cst (sel of.length s)) = some (kn ++ picks of (sel of.length s)) := by
  have h1 := sel_len of.length s
  have h2 := hm.lo
  exact f102_eq _ _ _ _ (fun i hi => sel_lt hi) hm.lk (by omega)
theorem Ok.f101 {s : Nat} : M.f101 1000 (n : Int) (kn ++ picks of (sel of.length s)) = some (mat n (WdS n kn of s)) := by
  have h1 := sel_len of.length s
  have h2 := hm.lo
  have h3 := picks_len of (sel of.length s)
  have h4 := hm.lk
  exact f101_eq hm.n2 hm.n8 (by rw [List.length_append]; omega) hm.okC
theorem Ok.f73 {s a b : Nat} (ha : a < n) (hb : b < n) (w : Int) (hw : w ≤ 16777216) : M.f73 1000 ((n : Int), kn, of) (cst (sel of.length s)) (a : Int) (b : Int) w = some (decide (WdS n kn of s a b ≤ w)) := by
  unfold M.f73
  refine bnd hm.cmps (bnd hm.f101 ?_)
  rw [if_pos (by simp)]
  refine bnd (idx_mat ha) (bnd (idx_row hb) ?_)
  cases hq : decide (WdS n kn of s a b ≤ w) with
  | false => simp [guardO]
  | true =>
    simp only [guardO, idx_mat ha, Option.bind_eq_bind, Option.bind_some, idx_row hb]
    simp at hq ⊢
    omega
theorem Ok.f84 {s a b : Nat} (ha : a < n) (hb : b < n) : M.f84 1000 ((n : Int), kn, of) (cst (sel of.length s)) (a : Int) (b : Int) = some (WdS n kn of s a b) := by
  unfold M.f84
  exact bnd hm.cmps (bnd hm.f101 (bnd (idx_mat ha) (bnd (idx_row hb) rfl)))
theorem Ok.f82 {s : Nat} (hs : s < 2 ^ of.length) : M.f82 (s : Int) ((n : Int), kn, of) = some (costF of (sel of.length s)) := by
  rw [← hm.selE hs]
  exact f82_eq _ _ _ _ (by rw [hm.selE hs]; intro i hi; exact sel_lt hi)
theorem Ok.f81 {s : Nat} : M.f81 1000 ((n : Int), kn, of) (cst (sel of.length s)) = some (costF of (sel of.length s)) := by
  have h1 := sel_len of.length s
  have h2 := hm.lo
  exact f81_eq _ _ _ _ (fun i hi => sel_lt hi) (by omega)
theorem Ok.f74 {s : Nat} : M.f74 1000 ((n : Int), kn, of) (s : Int) = some (cst (sel of.length s)) := f74_eq _ _ _ _ (by have := hm.lo; omega)
theorem Ok.pow : 2 ^ of.length ≤ 64 := Nat.le_trans (Nat.pow_le_pow_right (by decide) hm.lo) (by decide)
theorem Ok.f71 : M.f71 ((n : Int), kn, of) = some ((2 ^ of.length - 1 : Nat) : Int) := by
  have := hm.pow; have h0 := hm.pos
  unfold M.f71
  refine bnd (shl_one (by show of.length ≤ 62; have := hm.lo; omega)) ?_
  generalize 2 ^ of.length = q at *
  rw [wr_id (by omega) (by omega)]
  congr 1; omega
theorem Ok.f75 : M.f75 ((n : Int), kn, of) = some ((2 ^ of.length - 1 : Nat) : Int) := hm.f71
theorem Ok.shl : shl 1 (of.length : Int) = some ((2 ^ of.length : Nat) : Int) := shl_one (by have := hm.lo; omega)
end
theorem bclr_fin : ∀ l : Fin 7, ∀ i : Fin 7, i.val < l.val → bclr ((2 ^ l.val - 1 : Nat) : Int) ((2 ^ i.val : Nat) : Int) = ((2 ^ l.val - 1 - 2 ^ i.val : Nat) : Int) := by decide +kernel
theorem bclr_eq {l i : Nat} (hl : l ≤ 6) (hi : i < l) : bclr ((2 ^ l - 1 : Nat) : Int) ((2 ^ i : Nat) : Int) = ((2 ^ l - 1 - 2 ^ i : Nat) : Int) := bclr_fin ⟨l, by omega⟩ ⟨i, by omega⟩ hi
section
variable {n : Nat} {kn of : List S_api_Offer} (hm : Ok n kn of)
include hm
/-- Within reach with all offers. -/
theorem f69_eq {a b : Nat} (ha : a < n) (hb : b < n) {w : Int} (hc : code ((n : Int), kn, of) a b w = 0) : M.f69 ((n : Int), kn, of) a b w = some (if WdS n kn of (2 ^ of.length - 1) a b ≤ w then 0 else 4) := by
  have hp := hm.pos
  unfold M.f69
  refine bnd (f76_eq _ _ _ _) ?_
  rw [hc]
  simp only [bne_self_eq_false, Bool.false_eq_true, if_false]
  refine bnd rfl (bnd hm.f71 (bnd (hm.f116 (by omega) ha hb w) ?_))
  by_cases h : WdS n kn of (2 ^ of.length - 1) a b ≤ w <;> simp [h]
def needL (n : Nat) (kn of : List S_api_Offer) (a b : Nat) (w : Int) (j : Nat) : List Nat := (List.range j).filter fun i => !decide (WdS n kn of (2 ^ of.length - 1 - 2 ^ i) a b ≤ w)
omit hm in
theorem needL_succ {a b : Nat} {w : Int} (j : Nat) : needL n kn of a b w (j + 1) = if decide (WdS n kn of (2 ^ of.length - 1 - 2 ^ j) a b ≤ w) = true then needL n kn of a b w j else needL n kn of a b w j ++ [j] := by
  unfold needL
  rw [List.range_succ, List.filter_append]
  cases h : decide (WdS n kn of (2 ^ of.length - 1 - 2 ^ j) a b ≤ w) <;> simp [h]
omit hm in
theorem needL_len {a b : Nat} {w : Int} (j : Nat) : (needL n kn of a b w j).length ≤ j := by
  have := List.length_filter_le (fun i => !decide (WdS n kn of (2 ^ of.length - 1 - 2 ^ i) a b ≤ w)) (List.range j)
  rwa [List.length_range] at this
def needR (n : Nat) (kn of : List S_api_Offer) (a b : Nat) (w : Int) : List Int × Int := if WdS n kn of (2 ^ of.length - 1) a b ≤ w then (cst (needL n kn of a b w of.length), 0) else ([], 4)
theorem f18_eq {a b : Nat} (ha : a < n) (hb : b < n) {w : Int} (hc : code ((n : Int), kn, of) a b w = 0) : M.f18 ((n : Int), kn, of) a b w = some (needR n kn of a b w) := by
  have hp := hm.pos
  have h6 := hm.lo
  unfold M.f18 needR
  refine bnd (f69_eq hm ha hb hc) ?_
  by_cases h : WdS n kn of (2 ^ of.length - 1) a b ≤ w
  · rw [if_pos h, if_pos h]
    simp only [bne_self_eq_false, Bool.false_eq_true, if_false]
    refine bnd rfl ?_
    obtain ⟨r, e1, e2⟩ := forS_inv (N := of.length) (s := ([] : List Int)) (f := fun i_5 s_7 => (M.f71 ((n : Int), kn, of)) >>= fun v_12 => (shl 1 i_5) >>= fun v_14 => (M.f116 (bclr v_12 v_14) ((n : Int), kn, of) a b w) >>= fun v_16 => (if (!v_16) = true then ((app s_7 ([i_5] : List Int)) >>= fun z_21 => some z_21) else (some s_7)) >>= fun y_19 => some y_19)
      (fun j l => l = cst (needL n kn of a b w j)) (by omega) rfl fun j l hj hl => by
        subst hl
        have hl := needL_len (n := n) (kn := kn) (of := of) (a := a) (b := b) (w := w) j
        refine ⟨_, ?_, rfl⟩
        rw [needL_succ]
        refine bnd hm.f71 (bnd (shl_one (by omega)) ?_)
        rw [bclr_eq h6 hj]
        refine bnd (hm.f116 (by generalize 2 ^ j = q; omega) ha hb w) ?_
        cases decide (WdS n kn of (2 ^ of.length - 1 - 2 ^ j) a b ≤ w) with
        | true => rfl
        | false =>
          refine bnd (y := cst (needL n kn of a b w j ++ [j])) ?_ rfl
          exact bnd (app_cst (by omega)) rfl
    subst e2
    exact bnd e1 rfl
  · rw [if_neg h, if_neg h]
    rfl
theorem f19_eq {a b : Nat} (ha : a < n) (hb : b < n) {w : Int} (hw : w ≤ 16777216) (hc : code ((n : Int), kn, of) a b w = 0) : M.f19 1000 ((n : Int), kn, of) a b w = some (needR n kn of a b w) := by
  have hp := hm.pos
  have h6 := hm.lo
  unfold M.f19 needR
  refine bnd (f72_eq _ _ _ _) ?_
  rw [hc]
  simp only [bne_self_eq_false, Bool.false_eq_true, if_false]
  refine bnd hm.f75 (bnd hm.f74 (bnd (hm.f73 ha hb w hw) ?_))
  by_cases h : WdS n kn of (2 ^ of.length - 1) a b ≤ w
  · rw [if_pos h]
    simp only [h, decide_true, Bool.not_true, Bool.false_eq_true, if_false]
    refine bnd (y := cst (needL n kn of a b w of.length)) ?_ rfl
    obtain ⟨r, e1, e2⟩ := loopM_inv (ρ := List Int) (f := fun s_9 : Int × (List Int) =>
      (if (decide (s_9.1 < (of.length : Int))) = true then (
      (M.f75 ((n : Int), kn, of)) >>= fun v_14 =>
      (shl 1 s_9.1) >>= fun v_16 =>
      (M.f74 1000 ((n : Int), kn, of) (bclr v_14 v_16)) >>= fun v_18 =>
      (M.f73 1000 ((n : Int), kn, of) v_18 a b w) >>= fun v_20 =>
      (if (!v_20) = true then (
      (app s_9.2 ([s_9.1] : List Int)) >>= fun z_25 =>
      some z_25)
      else (
      some s_9.2)) >>= fun y_23 =>
      some (.again ((wr (s_9.1 + 1)), y_23)))
      else (
      some (.leave s_9.2))))
      (fun m st => m ≤ of.length ∧ st = (((of.length - m : Nat) : Int), cst (needL n kn of a b w (of.length - m)))) (fun r => r = cst (needL n kn of a b w of.length)) 1000 of.length (0, []) (by omega) ⟨Nat.le_refl _, by simp [needL, cst]⟩ fun m st ⟨hm', hst⟩ => by
        subst hst
        cases m with
        | zero => exact ⟨_, by rw [if_neg (by simp)], by simp [OutP]⟩
        | succ m =>
          refine ⟨.again (((of.length - m : Nat) : Int), cst (needL n kn of a b w (of.length - m))), ?_, m, by omega, by omega, rfl⟩
          rw [if_pos (by simp; omega), show of.length - m = of.length - (m + 1) + 1 from by omega]
          generalize hj : of.length - (m + 1) = j at *
          have hj2 : j < of.length := by omega
          have hl := needL_len (n := n) (kn := kn) (of := of) (a := a) (b := b) (w := w) j
          refine bnd hm.f75 (bnd (shl_one (by show j ≤ 62; omega)) ?_)
          show (M.f74 1000 ((n : Int), kn, of) (bclr ((2 ^ of.length - 1 : Nat) : Int) ((2 ^ j : Nat) : Int)) >>= _) = _
          rw [bclr_eq h6 hj2, needL_succ]
          refine bnd hm.f74 (bnd (hm.f73 ha hb w hw) ?_)
          rw [wr_id (show -9223372036854775808 ≤ ((j : Int) + 1) by omega) (by omega)]
          cases decide (WdS n kn of (2 ^ of.length - 1 - 2 ^ j) a b ≤ w) with
          | true => rfl
          | false =>
            refine bnd (y := cst (needL n kn of a b w j ++ [j])) ?_ rfl
            exact bnd (app_cst (by omega)) rfl
    rw [← e2]; exact e1
  · rw [if_neg h]
    simp [h]
/-! ### the least widths -/
def leastG (n : Nat) (kn of : List S_api_Offer) (a b : Nat) (c : Int) (s : Nat) (best : Int) : Int := if costF of (sel of.length s) ≤ c then imin best (WdS n kn of s a b) else best
def leastR (n : Nat) (kn of : List S_api_Offer) (a b : Nat) (c : Int) : Int × Bool × Int := if 1099511627776 ≤ itr (leastG n kn of a b c) (2 ^ of.length) 1099511627776 then (0, false, 0) else (itr (leastG n kn of a b c) (2 ^ of.length) 1099511627776, true, 0)
theorem f22_eq {a b : Nat} (ha : a < n) (hb : b < n) {c : Int} (hc : code ((n : Int), kn, of) a b c = 0) : M.f22 ((n : Int), kn, of) a b c = some (leastR n kn of a b c) := by
  have hp := hm.pow
  unfold M.f22 leastR
  refine bnd (f76_eq _ _ _ _) ?_
  rw [hc]
  simp only [bne_self_eq_false, Bool.false_eq_true, if_false]
  refine bnd hm.shl ?_
  refine bnd (forS_map (N := 2 ^ of.length) (leastG n kn of a b c) id (by omega) fun s best hs => ?_) ?_
  · refine bnd (hm.f82 hs) ?_
    unfold leastG
    by_cases h : costF of (sel of.length s) ≤ c
    · simp only [h, decide_true, if_true]
      exact bnd (bnd (hm.f83 hs) (bnd (idx_mat ha) (bnd (idx_row hb) rfl))) rfl
    · simp only [h, decide_false, Bool.false_eq_true, if_false]
      rfl
  · simp only [id]
    split <;> rename_i h <;> simp at h
    · rw [if_pos h]
    · rw [if_neg (by omega)]
theorem f23_eq {a b : Nat} (ha : a < n) (hb : b < n) {c : Int} (hc : code ((n : Int), kn, of) a b c = 0) : M.f23 1000 ((n : Int), kn, of) a b c = some (leastR n kn of a b c) := by
  have hp := hm.pow
  unfold M.f23 leastR
  refine bnd (f72_eq _ _ _ _) ?_
  rw [hc]
  simp only [bne_self_eq_false, Bool.false_eq_true, if_false]
  refine bnd (loopM_map (N := 2 ^ of.length) (leastG n kn of a b c) (fun s best => (best, (s : Int))) id (by omega) (fun s best hs => ?_) (fun best => ?_)) ?_
  · refine bnd hm.shl ?_
    rw [if_pos (by rw [decide_eq_true_eq]; exact Int.ofNat_lt.2 hs)]
    refine bnd hm.f74 (bnd hm.f81 ?_)
    unfold leastG
    rw [wr_id (show -9223372036854775808 ≤ ((s : Int) + 1) by omega) (by omega)]
    by_cases h : costF of (sel of.length s) ≤ c
    · simp only [h, decide_true, if_true]
      exact bnd (bnd (hm.f84 ha hb) rfl) rfl
    · simp only [h, decide_false, Bool.false_eq_true, if_false]
      rfl
  · refine bnd hm.shl ?_
    rw [if_neg (by simp)]
    rfl
  · simp only [id]
    split <;> rename_i h <;> simp at h
    · rw [if_pos h]
    · rw [if_neg (by omega)]
end
end Go.Proofs.Ytkbilbeaedocjaa
