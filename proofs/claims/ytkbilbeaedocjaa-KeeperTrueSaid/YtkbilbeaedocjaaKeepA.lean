/-
  What is proved: on valid markets the widths of keeper and of the specification are the same table; the checks agree.
  on valid markets the widths of keeper and of the specification are the same table.
  on valid markets the widths of keeper and of the specification are the same table.
  keeper.widths and the specification's widths are one table, on valid markets.
  what is within reach, what is needed, and the least widths: keeper and the specification agree.
  prices: keeper and the specification agree.
-/
import Derived.Test.YtkbilbeaedocjaaModelC
import Derived.Test.YtkbilbeaedocjaaPlain
import Derived.KernelRfl
namespace Go.Proofs.Ytkbilbeaedocjaa
open Go Go.Proofs.Ytkbilbeaedocjaa.Wh


/-! ### validity -/
def okB (n : Int) (c : Int) (o : S_api_Offer) : Bool := decide (0 ≤ o.1) && decide (o.1 < n) && decide (0 ≤ o.2.1) && decide (o.2.1 < n) && (o.1 != o.2.1) && decide (0 ≤ o.2.2.2) && decide (o.2.2.2 ≤ 1048576) && decide (0 ≤ o.2.2.1) && decide (o.2.2.1 ≤ c)
theorem f95_eq (o : S_api_Offer) (n c : Int) : M.f95 o n c = some (okB n c o) := rfl
theorem f80_eq (x a b : Int) : M.f80 x a b = some (decide (a ≤ x) && decide (x ≤ b)) := rfl
theorem guardO_bool (G v : Bool) : guardO G (some v) = some (G && v) := by cases G <;> rfl
theorem f96_eq (o : S_api_Offer) (n c : Int) (h1 : 2 ≤ n) (h2 : n ≤ 8) : M.f96 o n c = some (okB n c o) := by
  have hw : wr (n - 1) = n - 1 := wr_id (by omega) (by omega)
  have e : ∀ x : Int, decide (x ≤ n - 1) = decide (x < n) := fun x => by apply Bool.eq_iff_iff.2; simp; omega
  unfold M.f96 okB
  simp only [f80_eq, hw, e, Option.bind_eq_bind, Option.bind_some, guardO_bool]
  congr 1
  generalize decide (0 ≤ o.1) = a1, decide (o.1 < n) = a2, decide (0 ≤ o.2.1) = a3, decide (o.2.1 < n) = a4, (o.1 != o.2.1) = a5, decide (0 ≤ o.2.2.2) = a6, decide (o.2.2.2 ≤ 1048576) = a7, decide (0 ≤ o.2.2.1) = a8, decide (o.2.2.1 ≤ c) = a9
  revert a1 a2 a3 a4 a5 a6 a7 a8 a9
  decide
theorem all_take {α : Type} {xs : List α} {q : α → Bool} {j : Nat} {x : α} (h : xs[j]? = some x) : (xs.take (j + 1)).all q = ((xs.take j).all q && q x) := by
  rw [List.take_add_one, List.all_append, h]
  simp
/-- A loop that leaves at the first that is not so. -/
theorem forM_all {α ρ : Type} (xs : List α) (hx : xs.length ≤ 4294967296) (q : α → Bool) (r : ρ) (f : Int → Unit → Option (Out Unit ρ)) (h : ∀ (i : Nat) (x : α), xs[i]? = some x → f (i : Int) () = some (if q x = true then .again () else .leave r)) :
    forM 0 (xs.length : Int) () f = some (if xs.all q = true then .again () else .leave r) := by
  obtain ⟨o, h1, h2⟩ := forM_inv (f := f) (fun j (_ : Unit) => (xs.take j).all q = true) (fun r' => r' = r ∧ xs.all q = false) hx (s := ()) (by simp) fun j s hj hs => by
    have hx' := List.getElem?_eq_getElem hj
    refine ⟨_, h j xs[j] hx', ?_⟩
    cases hq : q xs[j] with
    | true =>
      simp only [if_true, OutP]
      rw [all_take hx', hs, hq]; rfl
    | false =>
      simp only [Bool.false_eq_true, if_false, OutP, true_and]
      rw [List.all_eq_false]
      exact ⟨xs[j], by simp, by simp [hq]⟩
  rw [h1]
  cases o with
  | again s =>
    simp only [OutP, List.take_length] at h2
    rw [if_pos h2]
  | leave r' =>
    obtain ⟨rfl, h3⟩ := h2
    rw [h3]; rfl
theorem loopM_all {α ρ : Type} (xs : List α) (q : α → Bool) (r d : ρ) (fuel : Nat) (hf : xs.length < fuel) (f : Int → Option (Out Int ρ)) (h : ∀ (i : Nat) (x : α), xs[i]? = some x → f (i : Int) = some (if q x = true then .again ((i + 1 : Nat) : Int) else .leave r)) (he : f (xs.length : Int) = some (.leave d)) :
    loopM f fuel 0 = some (if xs.all q = true then d else r) := by
  obtain ⟨r', h1, h2⟩ := loopM_inv (f := f) (fun m s => m ≤ xs.length ∧ s = ((xs.length - m : Nat) : Int) ∧ (xs.take (xs.length - m)).all q = true) (fun r' => r' = if xs.all q = true then d else r) fuel xs.length 0 hf ⟨Nat.le_refl _, by simp, by simp⟩ fun m s ⟨hm, hs, ha⟩ => by
    subst hs
    cases m with
    | zero =>
      refine ⟨_, he, ?_⟩
      simp only [Nat.sub_zero, List.take_length] at ha
      simp [OutP, ha]
    | succ m =>
      have hj : xs.length - (m + 1) < xs.length := by omega
      have hx' := List.getElem?_eq_getElem hj
      refine ⟨_, h _ _ hx', ?_⟩
      cases hq : q xs[xs.length - (m + 1)] with
      | true =>
        simp only [if_true, OutP]
        refine ⟨m, by omega, by omega, ?_, ?_⟩
        · rw [show xs.length - (m + 1) + 1 = xs.length - m from by omega]
        · rw [show xs.length - m = (xs.length - (m + 1)) + 1 from by omega, all_take hx', ha, hq]; rfl
      | false =>
        simp only [Bool.false_eq_true, if_false, OutP]
        rw [if_neg]
        rw [Bool.not_eq_true, List.all_eq_false]
        exact ⟨_, List.getElem_mem hj, by simp [hq]⟩
  rw [h1, h2]
def validB (m : S_api_Market) : Bool := decide (2 ≤ m.1) && decide (m.1 ≤ 8) && decide (m.2.1.length ≤ 24) && decide (m.2.2.length ≤ 12) && m.2.1.all (okB m.1 0) && m.2.2.all (okB m.1 10000)
theorem f41_eq (m : S_api_Market) : M.f41 m = some (if validB m = true then 0 else 80) := by
  unfold M.f41
  split
  · rename_i h
    rw [if_neg]
    unfold validB
    intro hv
    simp at h hv
    omega
  · rename_i h
    have hk : m.2.1.length ≤ 24 := by simp at h; omega
    have ho : m.2.2.length ≤ 12 := by simp at h; omega
    have hv : validB m = (m.2.1.all (okB m.1 0) && m.2.2.all (okB m.1 10000)) := by
      unfold validB
      simp at h
      have h1 : decide (2 ≤ m.1) = true := by simp; omega
      have h2 : decide (m.1 ≤ 8) = true := by simp; omega
      have h3 : decide (m.2.1.length ≤ 24) = true := by simp; omega
      have h4 : decide (m.2.2.length ≤ 12) = true := by simp; omega
      rw [h1, h2, h3, h4]; simp
    rw [forM_all m.2.1 (by omega) (okB m.1 0) (80 : Int) _ (fun i x hx => by rw [idx_nat, hx]; simp [f95_eq]; cases okB m.1 0 x <;> rfl)]
    rw [hv]
    cases h5 : m.2.1.all (okB m.1 0) with
    | false => simp [Out.elim]
    | true =>
      simp only [if_true, Option.bind_eq_bind, Option.bind_some, Out.elim, Bool.true_and]
      rw [forM_all m.2.2 (by omega) (okB m.1 10000) (80 : Int) _ (fun i x hx => by rw [idx_nat, hx]; simp [f95_eq]; cases okB m.1 10000 x <;> rfl)]
      cases h6 : m.2.2.all (okB m.1 10000) <;> simp [Out.elim]
theorem f42_eq (m : S_api_Market) : M.f42 1000 m = some (if validB m = true then 0 else 80) := by
  unfold M.f42
  simp only [f80_eq, Option.bind_eq_bind, Option.bind_some]
  split
  · rename_i h
    rw [if_neg]
    unfold validB
    intro hv
    simp at h hv
    omega
  · rename_i h
    have h1 : 2 ≤ m.1 := by simp at h; omega
    have h2 : m.1 ≤ 8 := by simp at h; omega
    have hk : m.2.1.length ≤ 24 := by simp at h; omega
    have ho : m.2.2.length ≤ 12 := by simp at h; omega
    have hv : validB m = (m.2.1.all (okB m.1 0) && m.2.2.all (okB m.1 10000)) := by
      unfold validB
      have h1 : decide (2 ≤ m.1) = true := by simp; omega
      have h2 : decide (m.1 ≤ 8) = true := by simp; omega
      have h3 : decide (m.2.1.length ≤ 24) = true := by simp; omega
      have h4 : decide (m.2.2.length ≤ 12) = true := by simp; omega
      rw [h1, h2, h3, h4]; simp
    have step : ∀ (c : Int) (xs : List S_api_Offer) (hl : xs.length ≤ 24) (i : Nat) (x : S_api_Offer), xs[i]? = some x →
        (if decide ((i : Int) < (xs.length : Int)) = true then (idx xs (i : Int)).bind fun v => (M.f96 v m.1 c).bind fun b => if (!b) = true then some (.leave (.inr 80)) else some (.again (wr ((i : Int) + 1))) else some (.leave (.inl ()))) =
          some (if okB m.1 c x = true then (.again ((i + 1 : Nat) : Int) : Out Int (Unit ⊕ Int)) else .leave (.inr 80)) := by
      intro c xs hl i x hx
      have hi := (List.getElem?_eq_some_iff.1 hx).1
      rw [if_pos (by simpa using hi), idx_nat, hx]
      simp only [Option.bind_some, f96_eq x m.1 c h1 h2]
      cases okB m.1 c x with
      | false => rfl
      | true =>
        rw [wr_id (by omega) (by omega)]
        rfl
    have he : ∀ (xs : List S_api_Offer) (k : Option (Out Int (Unit ⊕ Int))), (if decide ((xs.length : Int) < (xs.length : Int)) = true then k else some (.leave (.inl ()))) = some (.leave (.inl ())) := fun xs k => by
      rw [if_neg (by simp)]
    rw [loopM_all m.2.1 (okB m.1 0) (.inr 80) (.inl ()) 1000 (by omega) _ (step 0 m.2.1 hk) (he _ _), hv]
    cases h5 : m.2.1.all (okB m.1 0) with
    | false => rfl
    | true =>
      simp only [if_true, Option.bind_some, sumE, Bool.true_and]
      rw [loopM_all m.2.2 (okB m.1 10000) (.inr 80) (.inl ()) 1000 (by omega) _ (step 10000 m.2.2 (by omega)) (he _ _)]
      cases h6 : m.2.2.all (okB m.1 10000) <;> rfl
/-- The code that both give for a market, two clocks and a number. -/
def code (m : S_api_Market) (a b w : Int) : Int := if validB m = true then (if 0 ≤ a ∧ a < m.1 ∧ 0 ≤ b ∧ b < m.1 ∧ 0 ≤ w ∧ w ≤ 16777216 then 0 else 1) else 80
theorem f76_eq (m : S_api_Market) (a b w : Int) : M.f76 m [] ([a, b], [w]) = some (code m a b w) := by
  unfold M.f76 code
  simp only [f41_eq, Option.bind_eq_bind, Option.bind_some]
  cases hv : validB m with
  | false => simp
  | true =>
    rw [if_pos rfl, if_pos rfl]
    simp only [bne_self_eq_false, Bool.false_eq_true, if_false]
    simp only [Wh.forM, List.length_cons, List.length_nil, idx, Out.elim]
    have n0 : ((((0 : Nat) : Int) - 0).toNat) = 0 := rfl
    have n2 : ((((0 + 1 + 1 : Nat) : Int) - 0).toNat) = 2 := rfl
    have n1 : ((((0 + 1 : Nat) : Int) - 0).toNat) = 1 := rfl
    simp only [n0, n1, n2, forFrom]
    by_cases h1 : a < 0 ∨ m.1 ≤ a
    · have : ¬ (0 ≤ a ∧ a < m.1 ∧ 0 ≤ b ∧ b < m.1 ∧ 0 ≤ w ∧ w ≤ 16777216) := by omega
      rw [if_neg this]
      simp [h1]
    · by_cases h2 : b < 0 ∨ m.1 ≤ b
      · have : ¬ (0 ≤ a ∧ a < m.1 ∧ 0 ≤ b ∧ b < m.1 ∧ 0 ≤ w ∧ w ≤ 16777216) := by omega
        rw [if_neg this]
        simp [h1, h2]
      · by_cases h3 : w < 0 ∨ 16777216 < w
        · have : ¬ (0 ≤ a ∧ a < m.1 ∧ 0 ≤ b ∧ b < m.1 ∧ 0 ≤ w ∧ w ≤ 16777216) := by omega
          rw [if_neg this]
          simp [h1, h2, h3]
        · have hc : (0 ≤ a ∧ a < m.1 ∧ 0 ≤ b ∧ b < m.1 ∧ 0 ≤ w ∧ w ≤ 16777216) := by omega
          rw [if_pos hc]
          simp [h1, h2, h3]
theorem f72_eq (m : S_api_Market) (a b w : Int) : M.f72 1000 m [] w [a, b] = some (code m a b w) := by
  unfold M.f72 code
  simp only [f42_eq, Option.bind_eq_bind, Option.bind_some]
  cases hv : validB m with
  | false => simp
  | true =>
    have hm : 2 ≤ m.1 ∧ m.1 ≤ 8 := by unfold validB at hv; simp at hv; omega
    have hw : wr (m.1 - 1) = m.1 - 1 := wr_id (by omega) (by omega)
    have w1 : wr (0 + 1) = 1 := wr_id (by omega) (by omega)
    have w2 : wr (1 + 1) = 2 := wr_id (by omega) (by omega)
    have e88 : M.f88 1000 m [] = some true := by
      unfold M.f88
      simp [loopM, sumE]
    rw [if_pos rfl, if_pos rfl]
    simp only [bne_self_eq_false, Bool.false_eq_true, if_false, e88, Option.bind_some, Bool.not_true, f80_eq, hw]
    rw [loopM_all [a, b] (fun x => decide (0 ≤ x) && decide (x ≤ m.1 - 1)) (.inr 1) (.inl ()) 1000 (by simp) _ (fun i x hx => by
        have hi := (List.getElem?_eq_some_iff.1 hx).1
        have hi2 : i < 2 := hi
        rw [if_pos (by simp; omega), idx_nat, hx]
        simp only [Option.bind_some]
        cases (decide (0 ≤ x) && decide (x ≤ m.1 - 1)) with
        | false => rfl
        | true =>
          rw [wr_id (by omega) (by omega)]
          rfl) (by rw [if_neg (by simp)])]
    by_cases hc : (0 ≤ a ∧ a < m.1 ∧ 0 ≤ b ∧ b < m.1 ∧ 0 ≤ w ∧ w ≤ 16777216)
    · have q1 : ([a, b].all fun x => decide (0 ≤ x) && decide (x ≤ m.1 - 1)) = true := by simp; omega
      have q2 : (decide (0 ≤ w) && decide (w ≤ 16777216)) = true := by simp; omega
      rw [q1, q2, if_pos hc]
      rfl
    · rw [if_neg hc]
      cases q1 : ([a, b].all fun x => decide (0 ≤ x) && decide (x ≤ m.1 - 1)) with
      | false => rfl
      | true =>
        have q2 : (decide (0 ≤ w) && decide (w ≤ 16777216)) = false := by
          simp at q1 ⊢; omega
        rw [q2]
        rfl
end Go.Proofs.Ytkbilbeaedocjaa

namespace Go.Proofs.Ytkbilbeaedocjaa
open Go Go.Proofs.Ytkbilbeaedocjaa.Wh

/-! ### lists of offers by bits -/
def sel (k s : Nat) : List Nat := (List.range k).filter fun i => s.testBit i
def cst (l : List Nat) : List Int := l.map fun (i : Nat) => (i : Int)
theorem sel_succ (k s : Nat) : sel (k + 1) s = if s.testBit k = true then sel k s ++ [k] else sel k s := by
  unfold sel
  rw [List.range_succ, List.filter_append]
  cases h : s.testBit k <;> simp [h]
theorem sel_len (k s : Nat) : (sel k s).length ≤ k := by
  have := List.length_filter_le (fun i => s.testBit i) (List.range k)
  rwa [List.length_range] at this
theorem sel_lt {k s i : Nat} (h : i ∈ sel k s) : i < k := by
  unfold sel at h
  simp at h
  exact h.1
theorem sel_up {k s : Nat} (hs : s < 2 ^ k) : ∀ d, sel (k + d) s = sel k s
  | 0 => rfl
  | d + 1 => by
    rw [show k + (d + 1) = (k + d) + 1 from rfl, sel_succ, sel_up hs d]
    have : s.testBit (k + d) = false := Nat.testBit_lt_two_pow (Nat.lt_of_lt_of_le hs (Nat.pow_le_pow_right (by decide) (by omega)))
    rw [this]; rfl
theorem sel_12 {k s : Nat} (hk : k ≤ 12) (hs : s < 2 ^ k) : sel 12 s = sel k s := by
  have := sel_up hs (12 - k)
  rwa [show k + (12 - k) = 12 from by omega] at this
theorem app_cst {l : List Nat} {k : Nat} (h : l.length ≤ 4096) : app (cst l) [(k : Int)] = some (cst (l ++ [k])) := by
  unfold app
  rw [if_pos (by simp [cst]; omega)]
  simp [cst]
theorem f118_eq (s : Nat) : M.f118 (s : Int) = some (cst (sel 12 s)) := by
  unfold M.f118
  obtain ⟨l, h1, rfl⟩ := forS_inv (N := 12) (s := ([] : List Int)) (f := fun i_1 s_3 => (shr (s : Int) i_1) >>= fun v_8 => (if ((band v_8 1) == 1) = true then ((app s_3 ([i_1] : List Int)) >>= fun z_13 => some z_13) else (some s_3)) >>= fun y_11 => some y_11)
    (fun j l => l = cst (sel j s)) (by decide) rfl fun j l hj hl => by
      subst hl
      have hl := sel_len j s
      refine ⟨_, ?_, rfl⟩
      simp only [shr_nat (show j ≤ 64 by omega), Option.bind_eq_bind, Option.bind_some, bit_of, sel_succ]
      cases s.testBit j with
      | false => rfl
      | true => simp only [if_true]; rw [app_cst (by omega)]; rfl
  exact bnd h1 rfl
theorem f74_eq (n : Int) (kn of : List S_api_Offer) (s : Nat) (ho : of.length ≤ 12) : M.f74 1000 (n, kn, of) (s : Int) = some (cst (sel of.length s)) := by
  unfold M.f74
  refine bnd (y := cst (sel of.length s)) ?_ rfl
  obtain ⟨r, h1, h2⟩ := loopM_inv (ρ := List Int) (f := fun s_1 : Int × (List Int) => (if (decide (s_1.1 < (of.length : Int))) = true then ((shr (s : Int) s_1.1) >>= fun v_6 => (if ((band v_6 1) == 1) = true then ((app s_1.2 ([s_1.1] : List Int)) >>= fun z_11 => some z_11) else (some s_1.2)) >>= fun y_9 => some (.again ((wr (s_1.1 + 1)), y_9))) else (some (.leave s_1.2))))
    (fun m st => m ≤ of.length ∧ st = (((of.length - m : Nat) : Int), cst (sel (of.length - m) s))) (fun r => r = cst (sel of.length s)) 1000 of.length (0, []) (by omega) ⟨Nat.le_refl _, by simp [sel, cst]⟩ fun m st ⟨hm, hst⟩ => by
      subst hst
      cases m with
      | zero => exact ⟨_, by rw [if_neg (by simp)], by simp [OutP]⟩
      | succ m =>
        have hl := sel_len (of.length - (m + 1)) s
        refine ⟨.again (((of.length - m : Nat) : Int), cst (sel (of.length - m) s)), ?_, m, by omega, by omega, rfl⟩
        rw [if_pos (by simp; omega), show of.length - m = of.length - (m + 1) + 1 from by omega]
        generalize hj : of.length - (m + 1) = j at *
        have hj2 : j < of.length := by omega
        simp only [shr_nat (show j ≤ 64 by omega), Option.bind_eq_bind, Option.bind_some, bit_of, sel_succ]
        rw [wr_id (by omega) (by omega)]
        cases s.testBit j with
        | false => rfl
        | true => simp only [if_true]; rw [app_cst (by omega)]; rfl
  rw [← h2]; exact h1
end Go.Proofs.Ytkbilbeaedocjaa

namespace Go.Proofs.Ytkbilbeaedocjaa
open Go Go.Proofs.Ytkbilbeaedocjaa.Wh

/-! ### the comparisons behind buying -/
def picks (of : List S_api_Offer) (l : List Nat) : List S_api_Offer := l.filterMap fun i => of[i]?
theorem picks_len (of : List S_api_Offer) (l : List Nat) : (picks of l).length ≤ l.length := List.length_filterMap_le _ _
theorem picks_take {of : List S_api_Offer} {l : List Nat} {j i : Nat} {o : S_api_Offer} (h : l[j]? = some i) (ho : of[i]? = some o) : picks of (l.take (j + 1)) = picks of (l.take j) ++ [o] := by
  unfold picks
  rw [List.take_add_one, List.filterMap_append, h]
  simp [ho]
theorem cst_get {l : List Nat} {j i : Nat} (h : l[j]? = some i) : idx (cst l) (j : Int) = some (i : Int) := by
  rw [idx_nat]
  simp [cst, h]
theorem cst_length (l : List Nat) : (cst l).length = l.length := by simp [cst]
theorem app_one {α : Type} {xs : List α} {x : α} (h : xs.length ≤ 4096) : app xs [x] = some (xs ++ [x]) := by
  unfold app
  rw [if_pos (by simp; omega)]
theorem pick_at {of : List S_api_Offer} {l : List Nat} (hl : ∀ i ∈ l, i < of.length) {j : Nat} (hj : j < l.length) : ∃ i o, l[j]? = some i ∧ of[i]? = some o := by
  have := hl l[j] (by simp)
  exact ⟨l[j], of[l[j]], List.getElem?_eq_getElem hj, List.getElem?_eq_getElem this⟩
theorem f102_eq (n : Int) (kn of : List S_api_Offer) (l : List Nat) (hl : ∀ i ∈ l, i < of.length) (hk : kn.length ≤ 24) (hn : l.length ≤ 12) : M.f102 1000 (n, kn, of) (cst l) = some (kn ++ picks of l) := by
  unfold M.f102
  have h0 : app ([] : List S_api_Offer) kn = some kn := by unfold app; rw [if_pos (by simp; omega)]; rfl
  refine bnd h0 (bnd (y := kn ++ picks of l) ?_ rfl)
  obtain ⟨r, h1, h2⟩ := loopM_inv (ρ := List S_api_Offer) (f := fun s_4 : Int × (List S_api_Offer) => (if (decide (s_4.1 < ((cst l).length : Int))) = true then ((idx (cst l) s_4.1) >>= fun v_9 => (idx of v_9) >>= fun v_11 => (app s_4.2 ([v_11] : List S_api_Offer)) >>= fun z_13 => some (.again ((wr (s_4.1 + 1)), z_13))) else (some (.leave s_4.2))))
    (fun m st => m ≤ l.length ∧ st = (((l.length - m : Nat) : Int), kn ++ picks of (l.take (l.length - m)))) (fun r => r = kn ++ picks of l) 1000 l.length (0, kn) (by omega) ⟨Nat.le_refl _, by simp [picks]⟩ fun m st ⟨hm, hst⟩ => by
      subst hst
      cases m with
      | zero => exact ⟨_, by rw [if_neg (by simp [cst_length])], by simp [OutP]⟩
      | succ m =>
        refine ⟨.again (((l.length - m : Nat) : Int), kn ++ picks of (l.take (l.length - m))), ?_, m, by omega, by omega, rfl⟩
        rw [if_pos (by simp [cst_length]; omega), show l.length - m = l.length - (m + 1) + 1 from by omega]
        generalize hj : l.length - (m + 1) = j at *
        have hj2 : j < l.length := by omega
        obtain ⟨i, o, hi, ho⟩ := pick_at hl hj2
        have hlen := picks_len of (l.take j)
        rw [List.length_take] at hlen
        simp only [cst_get hi, Option.bind_eq_bind, Option.bind_some, idx_nat, ho]
        rw [app_one (by rw [List.length_append]; omega), wr_id (by omega) (by omega), picks_take hi ho]
        simp
  rw [← h2]; exact h1
/-! ### what offers cost -/
def costF (of : List S_api_Offer) (l : List Nat) : Int := (picks of l).foldl (fun c o => wr (c + o.2.2.1)) 0
theorem costF_take {of : List S_api_Offer} {l : List Nat} {j i : Nat} {o : S_api_Offer} (h : l[j]? = some i) (ho : of[i]? = some o) : costF of (l.take (j + 1)) = wr (costF of (l.take j) + o.2.2.1) := by
  unfold costF
  rw [picks_take h ho, List.foldl_append]
  rfl
theorem f81_eq (n : Int) (kn of : List S_api_Offer) (l : List Nat) (hl : ∀ i ∈ l, i < of.length) (hn : l.length ≤ 12) : M.f81 1000 (n, kn, of) (cst l) = some (costF of l) := by
  unfold M.f81
  refine bnd (y := costF of l) ?_ rfl
  obtain ⟨r, h1, h2⟩ := loopM_inv (ρ := Int) (f := fun s_1 : Int × Int => (if (decide (s_1.2 < ((cst l).length : Int))) = true then ((idx (cst l) s_1.2) >>= fun v_5 => (idx of v_5) >>= fun v_7 => some (.again ((wr (s_1.1 + v_7.2.2.1)), (wr (s_1.2 + 1))))) else (some (.leave s_1.1))))
    (fun m st => m ≤ l.length ∧ st = (costF of (l.take (l.length - m)), ((l.length - m : Nat) : Int))) (fun r => r = costF of l) 1000 l.length (0, 0) (by omega) ⟨Nat.le_refl _, by simp [costF, picks]⟩ fun m st ⟨hm, hst⟩ => by
      subst hst
      cases m with
      | zero => exact ⟨_, by rw [if_neg (by simp [cst_length])], by simp [OutP]⟩
      | succ m =>
        refine ⟨.again (costF of (l.take (l.length - m)), ((l.length - m : Nat) : Int)), ?_, m, by omega, by omega, rfl⟩
        rw [if_pos (by simp [cst_length]; omega), show l.length - m = l.length - (m + 1) + 1 from by omega]
        generalize hj : l.length - (m + 1) = j at *
        have hj2 : j < l.length := by omega
        obtain ⟨i, o, hi, ho⟩ := pick_at hl hj2
        simp only [cst_get hi, Option.bind_eq_bind, Option.bind_some, idx_nat, ho]
        rw [wr_id (show -9223372036854775808 ≤ ((j : Int) + 1) by omega) (by omega), costF_take hi ho]
        simp
  rw [← h2]; exact h1
theorem f82_eq (n : Int) (kn of : List S_api_Offer) (s : Nat) (hl : ∀ i ∈ sel 12 s, i < of.length) : M.f82 (s : Int) (n, kn, of) = some (costF of (sel 12 s)) := by
  unfold M.f82
  refine bnd (f118_eq s) ?_
  have hn := sel_len 12 s
  have hcl := cst_length (sel 12 s)
  rw [show ((cst (sel 12 s)).length : Int) = ((sel 12 s).length : Int) from by rw [hcl]]
  obtain ⟨r, h1, h2⟩ := forS_inv (N := (sel 12 s).length) (s := (0 : Int)) (f := fun i_3 s_5 => (idx (cst (sel 12 s)) i_3) >>= fun v_9 => (idx of v_9) >>= fun v_11 => some (wr (s_5 + v_11.2.2.1)))
    (fun j c => c = costF of ((sel 12 s).take j)) (by omega) rfl fun j c hj hc => by
      subst hc
      obtain ⟨i, o, hi, ho⟩ := pick_at hl hj
      exact ⟨_, by simp only [cst_get hi, Option.bind_eq_bind, Option.bind_some, idx_nat, ho], (costF_take hi ho).symm⟩
  rw [List.take_length] at h2
  subst h2
  exact bnd h1 rfl
/-! ### tables -/
structure OkC (n : Nat) (o : S_api_Offer) : Prop where
  a : ∃ k : Nat, o.1 = (k : Int) ∧ k < n
  b : ∃ k : Nat, o.2.1 = (k : Int) ∧ k < n
  ne : o.1 ≠ o.2.1
theorem okC_of {n : Nat} {c : Int} {o : S_api_Offer} (h : okB (n : Int) c o = true) : OkC n o := by
  unfold okB at h
  simp at h
  obtain ⟨⟨⟨⟨⟨⟨⟨⟨h1, h2⟩, h3⟩, h4⟩, h5⟩, h6⟩, h7⟩, h8⟩, h9⟩ := h
  exact ⟨⟨o.1.toNat, by omega, by omega⟩, ⟨o.2.1.toNat, by omega, by omega⟩, h5⟩
def stepK (F : Nat → Nat → Int) (o : S_api_Offer) : Nat → Nat → Int :=
  updM (updM F o.1.toNat o.2.1.toNat (imin (F o.1.toNat o.2.1.toNat) o.2.2.2)) o.2.1.toNat o.1.toNat (imin (F o.1.toNat o.2.1.toNat) o.2.2.2)
def stepR (F : Nat → Nat → Int) (o : S_api_Offer) : Nat → Nat → Int :=
  updM (updM F o.1.toNat o.2.1.toNat (imin (F o.1.toNat o.2.1.toNat) o.2.2.2)) o.2.1.toNat o.1.toNat (imin (updM F o.1.toNat o.2.1.toNat (imin (F o.1.toNat o.2.1.toNat) o.2.2.2) o.2.1.toNat o.1.toNat) o.2.2.2)
def diag (F : Nat → Nat → Int) : Nat → Nat → Int := fun a b => if a = b then 0 else F a b
def far0 : Nat → Nat → Int := fun _ _ => 1099511627776
/-- The cheaper steps agree: the table stays the same both ways. -/
theorem steps_agree {n : Nat} : ∀ (cs : List S_api_Offer), (∀ o ∈ cs, OkC n o) → ∀ (F : Nat → Nat → Int), (∀ a b, F a b = F b a) → (∀ a b, cs.foldl stepK F a b = cs.foldl stepK F b a) ∧ cs.foldl stepR (diag F) = diag (cs.foldl stepK F)
  | [], _, F, hF => ⟨hF, rfl⟩
  | o :: cs, h, F, hF => by
    have ho := h o (by simp)
    obtain ⟨⟨x, hx, _⟩, ⟨y, hy, _⟩, hne⟩ := ho
    have hxy : x ≠ y := fun e => hne (by rw [hx, hy, e])
    have ex : o.1.toNat = x := by omega
    have ey : o.2.1.toNat = y := by omega
    have hs : ∀ a b, stepK F o a b = stepK F o b a := by
      intro a b
      unfold stepK updM
      rw [ex, ey]
      have := hF a b
      by_cases h1 : a = y ∧ b = x
      · obtain ⟨rfl, rfl⟩ := h1; simp [hxy, Ne.symm hxy]
      · by_cases h2 : a = x ∧ b = y
        · obtain ⟨rfl, rfl⟩ := h2; simp [hxy]
        · rw [if_neg h1, if_neg h2, if_neg (fun e => h2 ⟨e.2, e.1⟩), if_neg (fun e => h1 ⟨e.2, e.1⟩)]
          exact this
    have hd : stepR (diag F) o = diag (stepK F o) := by
      funext a b
      unfold stepR stepK diag updM
      rw [ex, ey]
      have e1 : F y x = F x y := hF y x
      by_cases h1 : a = y ∧ b = x
      · obtain ⟨rfl, rfl⟩ := h1; simp [hxy, Ne.symm hxy, e1]
      · by_cases h2 : a = x ∧ b = y
        · obtain ⟨rfl, rfl⟩ := h2; simp [hxy]
        · simp [h1, h2]
    simp only [List.foldl_cons]
    rw [hd]
    exact steps_agree cs (fun o ho => h o (by simp [ho])) _ hs
def relax (c a b : Nat) (F : Nat → Nat → Int) : Nat → Nat → Int := if wr (F a c + F c b) < F a b then updM F a b (wr (F a c + F c b)) else F
def fw (n : Nat) (F : Nat → Nat → Int) : Nat → Nat → Int := itr (fun c F => itr (fun a F => itr (fun b F => relax c a b F) n F) n F) n F
/-- The widths behind buying. -/
def Wd (n : Nat) (cs : List S_api_Offer) : Nat → Nat → Int := fw n (diag (cs.foldl stepK far0))
end Go.Proofs.Ytkbilbeaedocjaa

namespace Go.Proofs.Ytkbilbeaedocjaa
open Go Go.Proofs.Ytkbilbeaedocjaa.Wh

theorem small {p : Nat → Prop} (h : p 2 ∧ p 3 ∧ p 4 ∧ p 5 ∧ p 6 ∧ p 7 ∧ p 8) {n : Nat} (h1 : 2 ≤ n) (h2 : n ≤ 8) : p n := by
  obtain ⟨a, b, c, d, e, f, g⟩ := h
  have : n = 2 ∨ n = 3 ∨ n = 4 ∨ n = 5 ∨ n = 6 ∨ n = 7 ∨ n = 8 := by omega
  rcases this with rfl | rfl | rfl | rfl | rfl | rfl | rfl <;> assumption
theorem f109_eq {n : Nat} (h1 : 2 ≤ n) (h2 : n ≤ 8) : M.f109 (n : Int) = some (mat n far0) :=
  small (p := fun n => M.f109 (n : Int) = some (mat n far0)) (by refine ⟨?_, ?_, ?_, ?_, ?_, ?_, ?_⟩ <;> kernel_rfl) h1 h2
def blankR (fuel : Nat) (p0 : Int) : Option (List (List Int)) :=
  loopM (ρ := (List (List Int))) (fun s_1 : Int × (List (List Int)) =>
    (if (decide (s_1.1 < p0)) = true then (
    (loopM (ρ := (List Int)) (fun s_8 : Int × (List Int) =>
      (if (decide (s_8.1 < p0)) = true then (
      (app s_8.2 ([1099511627776] : List Int)) >>= fun z_13 =>
      some (.again ((wr (s_8.1 + 1)), z_13)))
      else (
      some (.leave s_8.2)))) fuel ((0, ([] : List Int)) : Int × (List Int))) >>= fun o_9 =>
    (fun p_26 =>
      (app s_1.2 [p_26]) >>= fun z_27 =>
      (idx z_27 s_1.1) >>= fun v_31 =>
      (idx v_31 s_1.1) >>= fun v_33 =>
      (set2 z_27 s_1.1 s_1.1 0) >>= fun z_35 =>
      some (.again ((wr (s_1.1 + 1)), z_35))) o_9)
    else (
    some (.leave s_1.2)))) fuel ((0, ([] : List (List Int))) : Int × (List (List Int)))
theorem blankR_eq {n : Nat} (h1 : 2 ≤ n) (h2 : n ≤ 8) : blankR 1000 (n : Int) = some (mat n (diag far0)) :=
  small (p := fun n => blankR 1000 (n : Int) = some (mat n (diag far0))) (by refine ⟨?_, ?_, ?_, ?_, ?_, ?_, ?_⟩ <;> kernel_rfl) h1 h2
theorem f128_eq (kn : List S_api_Offer) (hk : kn.length ≤ 24) : M.f128 kn = some kn := by
  unfold M.f128
  rw [if_pos (by omega)]
theorem take_foldl {α β : Type} {f : β → α → β} {xs : List α} {j : Nat} {x : α} {b : β} (h : xs[j]? = some x) : (xs.take (j + 1)).foldl f b = f ((xs.take j).foldl f b) x := by
  rw [List.take_add_one, h, List.foldl_append]
  rfl
theorem f113_eq {n : Nat} {kn of : List S_api_Offer} {s : Nat} (h1 : 2 ≤ n) (h2 : n ≤ 8) (hk : kn.length ≤ 24) (hl : ∀ i ∈ sel 12 s, i < of.length) (hok : ∀ o ∈ kn ++ picks of (sel 12 s), OkC n o) :
    M.f113 ((n : Int), kn, of) (s : Int) = some (mat n ((kn ++ picks of (sel 12 s)).foldl stepK far0)) := by
  have hn := sel_len 12 s
  have hp := picks_len of (sel 12 s)
  unfold M.f113
  refine bnd (f109_eq h1 h2) (bnd (f128_eq kn hk) (bnd (f118_eq s) ?_))
  have hcl := cst_length (sel 12 s)
  rw [show ((cst (sel 12 s)).length : Int) = ((sel 12 s).length : Int) from by rw [hcl]]
  obtain ⟨r, e1, e2⟩ := forS_inv (N := (sel 12 s).length) (s := kn) (f := fun i_11 s_13 => (idx (cst (sel 12 s)) i_11) >>= fun v_18 => (idx of v_18) >>= fun v_20 => (app s_13 ([v_20] : List S_api_Offer)) >>= fun z_22 => some z_22)
    (fun j l => l = kn ++ picks of ((sel 12 s).take j)) (by omega) (by simp [picks]) fun j l hj hc => by
      subst hc
      obtain ⟨i, o, hi, ho⟩ := pick_at hl hj
      have hlen := picks_len of ((sel 12 s).take j)
      rw [List.length_take] at hlen
      refine ⟨_, ?_, rfl⟩
      simp only [cst_get hi, Option.bind_eq_bind, Option.bind_some, idx_nat, ho]
      rw [app_one (by rw [List.length_append]; omega), picks_take hi ho]
      simp
  rw [List.take_length] at e2
  subst e2
  refine bnd e1 ?_
  generalize hcs : kn ++ picks of (sel 12 s) = cs at *
  have hcsl : cs.length ≤ 36 := by rw [← hcs, List.length_append]; omega
  obtain ⟨r, e3, e4⟩ := forS_inv (N := cs.length) (s := mat n far0) (f := fun i_25 s_27 => (idx cs i_25) >>= fun v_31 => (idx s_27 v_31.1) >>= fun v_33 => (idx v_33 v_31.2.1) >>= fun v_35 => (idx s_27 v_31.1) >>= fun v_37 => (idx s_27 v_31.2.1) >>= fun v_39 => (idx v_37 v_31.2.1) >>= fun v_41 => (set2 s_27 v_31.1 v_31.2.1 (imin v_35 v_31.2.2.2)) >>= fun z_43 => (idx v_39 v_31.1) >>= fun v_45 => (set2 z_43 v_31.2.1 v_31.1 (imin v_35 v_31.2.2.2)) >>= fun z_47 => some z_47)
    (fun j T => T = mat n ((cs.take j).foldl stepK far0)) (by omega) rfl fun j T hj hT => by
      subst hT
      have hx := List.getElem?_eq_getElem hj
      obtain ⟨⟨x, hx1, hx2⟩, ⟨y, hy1, hy2⟩, _⟩ := hok cs[j] (by simp)
      refine ⟨_, ?_, rfl⟩
      rw [take_foldl hx, idx_nat, hx]
      generalize (cs.take j).foldl stepK far0 = F
      generalize cs[j] = o at *
      obtain ⟨oa, ob, oc, ow⟩ := o
      have hx1 : oa = (x : Int) := hx1
      have hy1 : ob = (y : Int) := hy1
      subst hx1; subst hy1
      simp only [Option.bind_eq_bind, Option.bind_some, idx_mat hx2, idx_mat hy2, idx_row hx2, idx_row hy2, set2_mat hx2 hy2, set2_mat hy2 hx2, stepK, Int.toNat_natCast]
  rw [List.take_length] at e4
  subst e4
  exact bnd e3 rfl
theorem itr_diag (n : Nat) (F : Nat → Nat → Int) : ∀ k, itr (fun c G => updM G c c 0) k F = fun a b => if a = b ∧ a < k then 0 else F a b
  | 0 => by funext a b; simp [itr]
  | k + 1 => by
    simp only [itr]
    rw [itr_diag n F k]
    funext a b
    unfold updM
    by_cases h : a = k ∧ b = k
    · obtain ⟨rfl, rfl⟩ := h; simp
    · rw [if_neg h]
      show (if a = b ∧ a < k then 0 else F a b) = _
      by_cases h2 : a = b ∧ a < k
      · rw [if_pos h2, if_pos (by omega)]
      · rw [if_neg h2, if_neg (by omega)]
theorem f83_eq {n : Nat} {kn of : List S_api_Offer} {s : Nat} (h1 : 2 ≤ n) (h2 : n ≤ 8) (hk : kn.length ≤ 24) (hl : ∀ i ∈ sel 12 s, i < of.length) (hok : ∀ o ∈ kn ++ picks of (sel 12 s), OkC n o) :
    M.f83 ((n : Int), kn, of) (s : Int) = some (mat n (Wd n (kn ++ picks of (sel 12 s)))) := by
  unfold M.f83
  refine bnd (f113_eq h1 h2 hk hl hok) ?_
  generalize (kn ++ picks of (sel 12 s)) = cs
  refine bnd (forS_map (fun c G => updM G c c 0) (mat n) (by omega) fun j F hj => by
    simp only [Option.bind_eq_bind, Option.bind_some, idx_mat hj, idx_row hj, set2_mat hj hj]) ?_
  rw [itr_diag n]
  rw [mat_congr (G := diag (cs.foldl stepK far0)) (fun a b ha hb => by unfold diag; by_cases h : a = b <;> simp [h, hb])]
  refine bnd (forS_map (fun c F => itr (fun a F => itr (fun b F => relax c a b F) n F) n F) (mat n) (by omega) fun c F hc => ?_) rfl
  refine bnd (forS_map (fun a F => itr (fun b F => relax c a b F) n F) (mat n) (by omega) fun a F ha => ?_) rfl
  refine bnd (forS_map (fun b F => relax c a b F) (mat n) (by omega) fun b F hb => ?_) rfl
  simp only [Option.bind_eq_bind, Option.bind_some, idx_mat hc, idx_mat ha, idx_row hb, idx_row hc, set2_mat ha hb, relax]
  by_cases hq : wr (F a c + F c b) < F a b <;> simp [hq]
theorem f101_eq {n : Nat} {cs : List S_api_Offer} (h1 : 2 ≤ n) (h2 : n ≤ 8) (hl : cs.length ≤ 36) (hok : ∀ o ∈ cs, OkC n o) : M.f101 1000 (n : Int) cs = some (mat n (Wd n cs)) := by
  unfold M.f101
  refine bnd (blankR_eq h1 h2) (bnd (y := mat n (diag (cs.foldl stepK far0))) ?_ (bnd (y := mat n (Wd n cs)) ?_ rfl))
  · rw [← (steps_agree cs hok far0 (fun _ _ => rfl)).2]
    obtain ⟨r, e1, e2⟩ := loopM_inv (ρ := List (List Int)) (f := fun s_135 : Int × (List (List Int)) =>
      (if (decide (s_135.1 < (cs.length : Int))) = true then (
      (idx cs s_135.1) >>= fun v_139 =>
      (idx cs s_135.1) >>= fun v_141 =>
      (idx cs s_135.1) >>= fun v_143 =>
      (idx s_135.2 v_139.1) >>= fun v_145 =>
      (idx s_135.2 v_139.1) >>= fun v_147 =>
      (idx v_147 v_141.2.1) >>= fun v_149 =>
      (idx v_145 v_141.2.1) >>= fun v_151 =>
      (set2 s_135.2 v_139.1 v_141.2.1 (imin v_149 v_143.2.2.2)) >>= fun z_153 =>
      (idx z_153 v_141.2.1) >>= fun v_155 =>
      (idx z_153 v_141.2.1) >>= fun v_157 =>
      (idx v_157 v_139.1) >>= fun v_159 =>
      (idx v_155 v_139.1) >>= fun v_161 =>
      (set2 z_153 v_141.2.1 v_139.1 (imin v_159 v_143.2.2.2)) >>= fun z_163 =>
      some (.again ((wr (s_135.1 + 1)), z_163)))
      else (
      some (.leave s_135.2))))
      (fun m st => m ≤ cs.length ∧ st = (((cs.length - m : Nat) : Int), mat n ((cs.take (cs.length - m)).foldl stepR (diag far0)))) (fun r => r = mat n (cs.foldl stepR (diag far0))) 1000 cs.length (0, mat n (diag far0)) (by omega) ⟨Nat.le_refl _, by simp⟩ fun m st ⟨hm, hst⟩ => by
        subst hst
        cases m with
        | zero => exact ⟨_, by rw [if_neg (by simp)], by simp [OutP]⟩
        | succ m =>
          refine ⟨.again (((cs.length - m : Nat) : Int), mat n ((cs.take (cs.length - m)).foldl stepR (diag far0))), ?_, m, by omega, by omega, rfl⟩
          rw [if_pos (by simp; omega), show cs.length - m = cs.length - (m + 1) + 1 from by omega]
          generalize hj : cs.length - (m + 1) = j at *
          have hj2 : j < cs.length := by omega
          have hx := List.getElem?_eq_getElem hj2
          obtain ⟨⟨x, hx1, hx2⟩, ⟨y, hy1, hy2⟩, _⟩ := hok cs[j] (by simp)
          rw [take_foldl hx]
          simp only [idx_nat cs j, hx]
          generalize (cs.take j).foldl stepR (diag far0) = F
          generalize cs[j] = o at *
          obtain ⟨oa, ob, oc, ow⟩ := o
          have hx1 : oa = (x : Int) := hx1
          have hy1 : ob = (y : Int) := hy1
          subst hx1; subst hy1
          rw [wr_id (show -9223372036854775808 ≤ ((j : Int) + 1) by omega) (by omega)]
          simp only [Option.bind_eq_bind, Option.bind_some, idx_mat hx2, idx_mat hy2, idx_row hx2, idx_row hy2, set2_mat hx2 hy2, set2_mat hy2 hx2, stepR, Int.toNat_natCast]
          rfl
    rw [← e2]; exact e1
  · unfold Wd
    generalize diag (cs.foldl stepK far0) = F0
    refine loopM_map (N := n) (fun c F => itr (fun a F => itr (fun b F => relax c a b F) n F) n F) (fun j F => ((j : Int), mat n F)) (fun F => mat n F) (by omega) (fun c F hc => ?_) (fun F => by rw [if_neg (by simp)])
    rw [if_pos (by simpa using hc)]
    refine bnd (loopM_map (N := n) (fun a F => itr (fun b F => relax c a b F) n F) (fun j F => ((j : Int), mat n F)) (fun F => mat n F) (by omega) (fun a F ha => ?_) (fun F => by rw [if_neg (by simp)])) (by rw [wr_id (by omega) (by omega)]; rfl)
    rw [if_pos (by simpa using ha)]
    refine bnd (loopM_map (N := n) (fun b F => relax c a b F) (fun j F => ((j : Int), mat n F)) (fun F => mat n F) (by omega) (fun b F hb => ?_) (fun F => by rw [if_neg (by simp)])) (by rw [wr_id (by omega) (by omega)]; rfl)
    rw [if_pos (by simpa using hb), wr_id (show -9223372036854775808 ≤ ((b : Int) + 1) by omega) (by omega)]
    simp only [Option.bind_eq_bind, Option.bind_some, idx_mat hc, idx_mat ha, idx_row hb, idx_row hc, set2_mat ha hb]
    have : updM F a b (imin (F a b) (wr (F a c + F c b))) = relax c a b F := by
      unfold relax imin
      split
      · rfl
      · funext x y; unfold updM; split
        · rename_i h; obtain ⟨rfl, rfl⟩ := h; rfl
        · rfl
    rw [this]
    rfl
end Go.Proofs.Ytkbilbeaedocjaa

namespace Go.Proofs.Ytkbilbeaedocjaa
open Go Go.Proofs.Ytkbilbeaedocjaa.Wh

/-- A valid market of few offers. -/
structure Ok (n : Nat) (kn of : List S_api_Offer) : Prop where
  n2 : 2 ≤ n
  n8 : n ≤ 8
  lk : kn.length ≤ 24
  lo : of.length ≤ 6
  k : ∀ o ∈ kn, okB (n : Int) 0 o = true
  o : ∀ o ∈ of, okB (n : Int) 10000 o = true
theorem ok_of {m : S_api_Market} (hv : validB m = true) (hf : m.2.2.length ≤ 6) : ∃ n : Nat, m.1 = (n : Int) ∧ Ok n m.2.1 m.2.2 := by
  unfold validB at hv
  simp only [Bool.and_eq_true, decide_eq_true_eq, List.all_eq_true] at hv
  obtain ⟨⟨⟨⟨⟨h1, h2⟩, h3⟩, h4⟩, h5⟩, h6⟩ := hv
  refine ⟨m.1.toNat, by omega, by omega, by omega, h3, hf, ?_, ?_⟩
  · rw [show ((m.1.toNat : Nat) : Int) = m.1 from by omega]; exact h5
  · rw [show ((m.1.toNat : Nat) : Int) = m.1 from by omega]; exact h6
theorem Ok.pos {n : Nat} {kn of : List S_api_Offer} (_ : Ok n kn of) : 0 < 2 ^ of.length := Nat.pow_pos (by decide)
section
variable {n : Nat} {kn of : List S_api_Offer} (hm : Ok n kn of)
include hm
theorem Ok.selE {s : Nat} (hs : s < 2 ^ of.length) : sel 12 s = sel of.length s := sel_12 (by have := hm.lo; omega) hs
theorem Ok.okC {l : List Nat} : ∀ o ∈ kn ++ picks of l, OkC n o := by
  intro o ho
  rcases List.mem_append.1 ho with ho | ho
  · exact okC_of (hm.k o ho)
  · unfold picks at ho
    obtain ⟨i, _, hi⟩ := List.mem_filterMap.1 ho
    exact okC_of (hm.o o (List.mem_of_getElem? hi))
/-- The width of two clocks behind buying offers by bits. -/
def WdS (n : Nat) (kn of : List S_api_Offer) (s : Nat) : Nat → Nat → Int := Wd n (kn ++ picks of (sel of.length s))
theorem Ok.f83 {s : Nat} (hs : s < 2 ^ of.length) : M.f83 ((n : Int), kn, of) (s : Int) = some (mat n (WdS n kn of s)) := by
  unfold WdS
  rw [← hm.selE hs]
  exact f83_eq hm.n2 hm.n8 hm.lk (by rw [hm.selE hs]; intro i hi; exact sel_lt hi) hm.okC
theorem Ok.f116 {s a b : Nat} (hs : s < 2 ^ of.length) (ha : a < n) (hb : b < n) (w : Int) : M.f116 (s : Int) ((n : Int), kn, of) (a : Int) (b : Int) w = some (decide (WdS n kn of s a b ≤ w)) := by
  unfold M.f116
  refine bnd (hm.f83 hs) (bnd (idx_mat ha) (bnd (idx_row hb) rfl))
theorem Ok.cmps {s : Nat} : M.f102 1000 ((n : Int), kn, of) (cst (sel of.length s)) = some (kn ++ picks of (sel of.length s)) := by
  have h1 := sel_len of.length s
  have h2 := hm.lo
  exact f102_eq _ _ _ _ (fun i hi => sel_lt hi) hm.lk (by omega)
theorem Ok.f101 {s : Nat} : M.f101 1000 (n : Int) (kn ++ picks of (sel of.length s)) = some (mat n (WdS n kn of s)) := by
  have h1 := sel_len of.length s
  have h2 := hm.lo
  have h3 := picks_len of (sel of.length s)
  have h4 := hm.lk
  exact f101_eq hm.n2 hm.n8 (by rw [List.length_append]; omega) hm.okC
theorem Ok.f73 {s a b : Nat} (ha : a < n) (hb : b < n) (w : Int) (hw : w ≤ 16777216) : M.f73 1000 ((n : Int), kn, of) (cst (sel of.length s)) (a : Int) (b : Int) w = some (decide (WdS n kn of s a b ≤ w)) := by
  unfold M.f73
  refine bnd hm.cmps (bnd hm.f101 ?_)
  rw [if_pos (by simp)]
  refine bnd (idx_mat ha) (bnd (idx_row hb) ?_)
  cases hq : decide (WdS n kn of s a b ≤ w) with
  | false => simp [guardO]
  | true =>
    simp only [guardO, idx_mat ha, Option.bind_eq_bind, Option.bind_some, idx_row hb]
    simp at hq ⊢
    omega
theorem Ok.f84 {s a b : Nat} (ha : a < n) (hb : b < n) : M.f84 1000 ((n : Int), kn, of) (cst (sel of.length s)) (a : Int) (b : Int) = some (WdS n kn of s a b) := by
  unfold M.f84
  exact bnd hm.cmps (bnd hm.f101 (bnd (idx_mat ha) (bnd (idx_row hb) rfl)))
theorem Ok.f82 {s : Nat} (hs : s < 2 ^ of.length) : M.f82 (s : Int) ((n : Int), kn, of) = some (costF of (sel of.length s)) := by
  rw [← hm.selE hs]
  exact f82_eq _ _ _ _ (by rw [hm.selE hs]; intro i hi; exact sel_lt hi)
theorem Ok.f81 {s : Nat} : M.f81 1000 ((n : Int), kn, of) (cst (sel of.length s)) = some (costF of (sel of.length s)) := by
  have h1 := sel_len of.length s
  have h2 := hm.lo
  exact f81_eq _ _ _ _ (fun i hi => sel_lt hi) (by omega)
theorem Ok.f74 {s : Nat} : M.f74 1000 ((n : Int), kn, of) (s : Int) = some (cst (sel of.length s)) := f74_eq _ _ _ _ (by have := hm.lo; omega)
theorem Ok.pow : 2 ^ of.length ≤ 64 := Nat.le_trans (Nat.pow_le_pow_right (by decide) hm.lo) (by decide)
theorem Ok.f71 : M.f71 ((n : Int), kn, of) = some ((2 ^ of.length - 1 : Nat) : Int) := by
  have := hm.pow; have h0 := hm.pos
  unfold M.f71
  refine bnd (shl_one (by show of.length ≤ 62; have := hm.lo; omega)) ?_
  generalize 2 ^ of.length = q at *
  rw [wr_id (by omega) (by omega)]
  congr 1; omega
theorem Ok.f75 : M.f75 ((n : Int), kn, of) = some ((2 ^ of.length - 1 : Nat) : Int) := hm.f71
theorem Ok.shl : shl 1 (of.length : Int) = some ((2 ^ of.length : Nat) : Int) := shl_one (by have := hm.lo; omega)
end
theorem bclr_fin : ∀ l : Fin 7, ∀ i : Fin 7, i.val < l.val → bclr ((2 ^ l.val - 1 : Nat) : Int) ((2 ^ i.val : Nat) : Int) = ((2 ^ l.val - 1 - 2 ^ i.val : Nat) : Int) := by decide +kernel
theorem bclr_eq {l i : Nat} (hl : l ≤ 6) (hi : i < l) : bclr ((2 ^ l - 1 : Nat) : Int) ((2 ^ i : Nat) : Int) = ((2 ^ l - 1 - 2 ^ i : Nat) : Int) := bclr_fin ⟨l, by omega⟩ ⟨i, by omega⟩ hi
section
variable {n : Nat} {kn of : List S_api_Offer} (hm : Ok n kn of)
include hm
/-- Within reach with all offers. -/
theorem f69_eq {a b : Nat} (ha : a < n) (hb : b < n) {w : Int} (hc : code ((n : Int), kn, of) a b w = 0) : M.f69 ((n : Int), kn, of) a b w = some (if WdS n kn of (2 ^ of.length - 1) a b ≤ w then 0 else 4) := by
  have hp := hm.pos
  unfold M.f69
  refine bnd (f76_eq _ _ _ _) ?_
  rw [hc]
  simp only [bne_self_eq_false, Bool.false_eq_true, if_false]
  refine bnd rfl (bnd hm.f71 (bnd (hm.f116 (by omega) ha hb w) ?_))
  by_cases h : WdS n kn of (2 ^ of.length - 1) a b ≤ w <;> simp [h]
def needL (n : Nat) (kn of : List S_api_Offer) (a b : Nat) (w : Int) (j : Nat) : List Nat := (List.range j).filter fun i => !decide (WdS n kn of (2 ^ of.length - 1 - 2 ^ i) a b ≤ w)
omit hm in
theorem needL_succ {a b : Nat} {w : Int} (j : Nat) : needL n kn of a b w (j + 1) = if decide (WdS n kn of (2 ^ of.length - 1 - 2 ^ j) a b ≤ w) = true then needL n kn of a b w j else needL n kn of a b w j ++ [j] := by
  unfold needL
  rw [List.range_succ, List.filter_append]
  cases h : decide (WdS n kn of (2 ^ of.length - 1 - 2 ^ j) a b ≤ w) <;> simp [h]
omit hm in
theorem needL_len {a b : Nat} {w : Int} (j : Nat) : (needL n kn of a b w j).length ≤ j := by
  have := List.length_filter_le (fun i => !decide (WdS n kn of (2 ^ of.length - 1 - 2 ^ i) a b ≤ w)) (List.range j)
  rwa [List.length_range] at this
def needR (n : Nat) (kn of : List S_api_Offer) (a b : Nat) (w : Int) : List Int × Int := if WdS n kn of (2 ^ of.length - 1) a b ≤ w then (cst (needL n kn of a b w of.length), 0) else ([], 4)
theorem f18_eq {a b : Nat} (ha : a < n) (hb : b < n) {w : Int} (hc : code ((n : Int), kn, of) a b w = 0) : M.f18 ((n : Int), kn, of) a b w = some (needR n kn of a b w) := by
  have hp := hm.pos
  have h6 := hm.lo
  unfold M.f18 needR
  refine bnd (f69_eq hm ha hb hc) ?_
  by_cases h : WdS n kn of (2 ^ of.length - 1) a b ≤ w
  · rw [if_pos h, if_pos h]
    simp only [bne_self_eq_false, Bool.false_eq_true, if_false]
    refine bnd rfl ?_
    obtain ⟨r, e1, e2⟩ := forS_inv (N := of.length) (s := ([] : List Int)) (f := fun i_5 s_7 => (M.f71 ((n : Int), kn, of)) >>= fun v_12 => (shl 1 i_5) >>= fun v_14 => (M.f116 (bclr v_12 v_14) ((n : Int), kn, of) a b w) >>= fun v_16 => (if (!v_16) = true then ((app s_7 ([i_5] : List Int)) >>= fun z_21 => some z_21) else (some s_7)) >>= fun y_19 => some y_19)
      (fun j l => l = cst (needL n kn of a b w j)) (by omega) rfl fun j l hj hl => by
        subst hl
        have hl := needL_len (n := n) (kn := kn) (of := of) (a := a) (b := b) (w := w) j
        refine ⟨_, ?_, rfl⟩
        rw [needL_succ]
        refine bnd hm.f71 (bnd (shl_one (by omega)) ?_)
        rw [bclr_eq h6 hj]
        refine bnd (hm.f116 (by generalize 2 ^ j = q; omega) ha hb w) ?_
        cases decide (WdS n kn of (2 ^ of.length - 1 - 2 ^ j) a b ≤ w) with
        | true => rfl
        | false =>
          refine bnd (y := cst (needL n kn of a b w j ++ [j])) ?_ rfl
          exact bnd (app_cst (by omega)) rfl
    subst e2
    exact bnd e1 rfl
  · rw [if_neg h, if_neg h]
    rfl
theorem f19_eq {a b : Nat} (ha : a < n) (hb : b < n) {w : Int} (hw : w ≤ 16777216) (hc : code ((n : Int), kn, of) a b w = 0) : M.f19 1000 ((n : Int), kn, of) a b w = some (needR n kn of a b w) := by
  have hp := hm.pos
  have h6 := hm.lo
  unfold M.f19 needR
  refine bnd (f72_eq _ _ _ _) ?_
  rw [hc]
  simp only [bne_self_eq_false, Bool.false_eq_true, if_false]
  refine bnd hm.f75 (bnd hm.f74 (bnd (hm.f73 ha hb w hw) ?_))
  by_cases h : WdS n kn of (2 ^ of.length - 1) a b ≤ w
  · rw [if_pos h]
    simp only [h, decide_true, Bool.not_true, Bool.false_eq_true, if_false]
    refine bnd (y := cst (needL n kn of a b w of.length)) ?_ rfl
    obtain ⟨r, e1, e2⟩ := loopM_inv (ρ := List Int) (f := fun s_9 : Int × (List Int) =>
      (if (decide (s_9.1 < (of.length : Int))) = true then (
      (M.f75 ((n : Int), kn, of)) >>= fun v_14 =>
      (shl 1 s_9.1) >>= fun v_16 =>
      (M.f74 1000 ((n : Int), kn, of) (bclr v_14 v_16)) >>= fun v_18 =>
      (M.f73 1000 ((n : Int), kn, of) v_18 a b w) >>= fun v_20 =>
      (if (!v_20) = true then (
      (app s_9.2 ([s_9.1] : List Int)) >>= fun z_25 =>
      some z_25)
      else (
      some s_9.2)) >>= fun y_23 =>
      some (.again ((wr (s_9.1 + 1)), y_23)))
      else (
      some (.leave s_9.2))))
      (fun m st => m ≤ of.length ∧ st = (((of.length - m : Nat) : Int), cst (needL n kn of a b w (of.length - m)))) (fun r => r = cst (needL n kn of a b w of.length)) 1000 of.length (0, []) (by omega) ⟨Nat.le_refl _, by simp [needL, cst]⟩ fun m st ⟨hm', hst⟩ => by
        subst hst
        cases m with
        | zero => exact ⟨_, by rw [if_neg (by simp)], by simp [OutP]⟩
        | succ m =>
          refine ⟨.again (((of.length - m : Nat) : Int), cst (needL n kn of a b w (of.length - m))), ?_, m, by omega, by omega, rfl⟩
          rw [if_pos (by simp; omega), show of.length - m = of.length - (m + 1) + 1 from by omega]
          generalize hj : of.length - (m + 1) = j at *
          have hj2 : j < of.length := by omega
          have hl := needL_len (n := n) (kn := kn) (of := of) (a := a) (b := b) (w := w) j
          refine bnd hm.f75 (bnd (shl_one (by show j ≤ 62; omega)) ?_)
          show (M.f74 1000 ((n : Int), kn, of) (bclr ((2 ^ of.length - 1 : Nat) : Int) ((2 ^ j : Nat) : Int)) >>= _) = _
          rw [bclr_eq h6 hj2, needL_succ]
          refine bnd hm.f74 (bnd (hm.f73 ha hb w hw) ?_)
          rw [wr_id (show -9223372036854775808 ≤ ((j : Int) + 1) by omega) (by omega)]
          cases decide (WdS n kn of (2 ^ of.length - 1 - 2 ^ j) a b ≤ w) with
          | true => rfl
          | false =>
            refine bnd (y := cst (needL n kn of a b w j ++ [j])) ?_ rfl
            exact bnd (app_cst (by omega)) rfl
    rw [← e2]; exact e1
  · rw [if_neg h]
    simp [h]
/-! ### the least widths -/
def leastG (n : Nat) (kn of : List S_api_Offer) (a b : Nat) (c : Int) (s : Nat) (best : Int) : Int := if costF of (sel of.length s) ≤ c then imin best (WdS n kn of s a b) else best
def leastR (n : Nat) (kn of : List S_api_Offer) (a b : Nat) (c : Int) : Int × Bool × Int := if 1099511627776 ≤ itr (leastG n kn of a b c) (2 ^ of.length) 1099511627776 then (0, false, 0) else (itr (leastG n kn of a b c) (2 ^ of.length) 1099511627776, true, 0)
theorem f22_eq {a b : Nat} (ha : a < n) (hb : b < n) {c : Int} (hc : code ((n : Int), kn, of) a b c = 0) : M.f22 ((n : Int), kn, of) a b c = some (leastR n kn of a b c) := by
  have hp := hm.pow
  unfold M.f22 leastR
  refine bnd (f76_eq _ _ _ _) ?_
  rw [hc]
  simp only [bne_self_eq_false, Bool.false_eq_true, if_false]
  refine bnd hm.shl ?_
  refine bnd (forS_map (N := 2 ^ of.length) (leastG n kn of a b c) id (by omega) fun s best hs => ?_) ?_
  · refine bnd (hm.f82 hs) ?_
    unfold leastG
    by_cases h : costF of (sel of.length s) ≤ c
    · simp only [h, decide_true, if_true]
      exact bnd (bnd (hm.f83 hs) (bnd (idx_mat ha) (bnd (idx_row hb) rfl))) rfl
    · simp only [h, decide_false, Bool.false_eq_true, if_false]
      rfl
  · simp only [id]
    split <;> rename_i h <;> simp at h
    · rw [if_pos h]
    · rw [if_neg (by omega)]
theorem f23_eq {a b : Nat} (ha : a < n) (hb : b < n) {c : Int} (hc : code ((n : Int), kn, of) a b c = 0) : M.f23 1000 ((n : Int), kn, of) a b c = some (leastR n kn of a b c) := by
  have hp := hm.pow
  unfold M.f23 leastR
  refine bnd (f72_eq _ _ _ _) ?_
  rw [hc]
  simp only [bne_self_eq_false, Bool.false_eq_true, if_false]
  refine bnd (loopM_map (N := 2 ^ of.length) (leastG n kn of a b c) (fun s best => (best, (s : Int))) id (by omega) (fun s best hs => ?_) (fun best => ?_)) ?_
  · refine bnd hm.shl ?_
    rw [if_pos (by rw [decide_eq_true_eq]; exact Int.ofNat_lt.2 hs)]
    refine bnd hm.f74 (bnd hm.f81 ?_)
    unfold leastG
    rw [wr_id (show -9223372036854775808 ≤ ((s : Int) + 1) by omega) (by omega)]
    by_cases h : costF of (sel of.length s) ≤ c
    · simp only [h, decide_true, if_true]
      exact bnd (bnd (hm.f84 ha hb) rfl) rfl
    · simp only [h, decide_false, Bool.false_eq_true, if_false]
      rfl
  · refine bnd hm.shl ?_
    rw [if_neg (by simp)]
    rfl
  · simp only [id]
    split <;> rename_i h <;> simp at h
    · rw [if_pos h]
    · rw [if_neg (by omega)]
end
end Go.Proofs.Ytkbilbeaedocjaa

namespace Go.Proofs.Ytkbilbeaedocjaa
open Go Go.Proofs.Ytkbilbeaedocjaa.Wh

theorem f125_eq (x y : Int) : M.f125 x y = some (if x < y then -1 else if y < x then 1 else 0) := by
  have h : ∀ z, M.f131 z = some false := fun z => by unfold M.f131; simp
  unfold M.f125
  simp only [h, Option.bind_eq_bind, Option.bind_some, Bool.false_eq_true, if_false, decide_eq_true_eq]
  split
  · rfl
  · split <;> rfl
theorem f94_some (l l' : List Int) (h1 : l.length ≤ 4096) : ∃ r, M.f94 l l' = some r := by
  unfold M.f94
  obtain ⟨o, e1, _⟩ := forM_inv (N := l.length) (s := ()) (f := fun i_1 (s_3 : Unit) => (idx l i_1) >>= fun v_7 => (if (decide ((l'.length : Int) ≤ i_1)) = true then (some (.leave 1)) else ((idx l' i_1) >>= fun v_9 => (M.f125 v_7 v_9) >>= fun v_11 => (if (v_11 != 0) = true then (some (.leave v_11)) else (some (.again ()) : Option (Out Unit Int))))))
    (fun _ _ => True) (fun _ => True) (by omega) trivial fun j s hj _ => by
      have hx := List.getElem?_eq_getElem hj
      simp only [idx_nat, hx, Option.bind_eq_bind, Option.bind_some]
      by_cases hl : (l'.length : Int) ≤ (j : Int)
      · exact ⟨.leave 1, by rw [if_pos (by simpa using hl)], trivial⟩
      · have hj' : j < l'.length := by omega
        rw [List.getElem?_eq_getElem hj']
        simp only [Option.bind_some, f125_eq]
        rw [if_neg (by simpa using hl)]
        generalize (if l[j] < l'[j] then (-1 : Int) else if l'[j] < l[j] then 1 else 0) = q
        by_cases hq : (q != 0) = true
        · exact ⟨.leave q, by rw [if_pos hq], trivial⟩
        · exact ⟨.again (), by rw [if_neg hq], trivial⟩
  rw [e1]
  cases o with
  | again s => simp only [Option.bind_eq_bind, Option.bind_some, Out.elim]; split <;> exact ⟨_, rfl⟩
  | leave r => exact ⟨r, rfl⟩
theorem f124_three (a b c : Int) : ∃ r, M.f124 [a, b, c] = some r ∧ (a ≠ 0 → r = a) := by
  unfold M.f124
  simp only [Wh.forM, List.length_cons, List.length_nil, idx, Out.elim]
  have n3 : ((((0 + 1 + 1 + 1 : Nat) : Int) - 0).toNat) = 3 := rfl
  simp only [n3, forFrom]
  by_cases ha : a = 0
  · by_cases hb : b = 0
    · by_cases hc : c = 0
      · exact ⟨0, by simp [ha, hb, hc], fun h => absurd ha h⟩
      · exact ⟨c, by simp [ha, hb, hc], fun h => absurd ha h⟩
    · exact ⟨b, by simp [ha, hb], fun h => absurd ha h⟩
  · exact ⟨a, by simp [ha], fun _ => rfl⟩
theorem f117_eq (x y : Int) (s t : Nat) : ∃ r, M.f117 (true, x, (s : Int)) (true, y, (t : Int)) = some r ∧ (x < y → r = true) ∧ (y < x → r = false) := by
  have hl := sel_len 12 s
  obtain ⟨u, hu⟩ := f94_some (cst (sel 12 s)) (cst (sel 12 t)) (by rw [cst_length]; omega)
  obtain ⟨r, h1, h2⟩ := f124_three (if x < y then -1 else if y < x then 1 else 0) (if ((cst (sel 12 s)).length : Int) < ((cst (sel 12 t)).length : Int) then -1 else if ((cst (sel 12 t)).length : Int) < ((cst (sel 12 s)).length : Int) then 1 else 0) u
  refine ⟨decide (r < 0), ?_, fun h => ?_, fun h => ?_⟩
  · unfold M.f117
    exact bnd (f118_eq s) (bnd (f118_eq t) (bnd (f125_eq _ _) (bnd (f125_eq _ _) (bnd hu (bnd h1 rfl)))))
  · rw [if_pos h] at h2
    rw [h2 (by decide)]; rfl
  · rw [if_neg (by omega), if_pos h] at h2
    rw [h2 (by decide)]; rfl
theorem cost_fold : ∀ (xs : List S_api_Offer) (c : Int) (K : Nat), (∀ o ∈ xs, 0 ≤ o.2.2.1 ∧ o.2.2.1 ≤ 10000) → 0 ≤ c → c ≤ 10000 * (K : Int) → K + xs.length ≤ 1000 → 0 ≤ xs.foldl (fun c o => wr (c + o.2.2.1)) c ∧ xs.foldl (fun c o => wr (c + o.2.2.1)) c ≤ 10000 * ((K + xs.length : Nat) : Int)
  | [], c, K, _, h0, h1, _ => ⟨h0, by simpa using h1⟩
  | o :: xs, c, K, h, h0, h1, hl => by
    have ho := h o (by simp)
    simp only [List.length_cons] at hl ⊢
    rw [List.foldl_cons, wr_id (by omega) (by omega)]
    have := cost_fold xs (c + o.2.2.1) (K + 1) (fun o ho => h o (by simp [ho])) (by omega) (by omega) (by omega)
    rw [show K + 1 + xs.length = K + (xs.length + 1) from by omega] at this
    exact this
section
variable {n : Nat} {kn of : List S_api_Offer} (hm : Ok n kn of)
include hm
theorem cost_lt (s : Nat) : costF of (sel of.length s) < 1099511627776 := by
  have h1 := sel_len of.length s
  have h2 := picks_len of (sel of.length s)
  have h3 := hm.lo
  have := (cost_fold (picks of (sel of.length s)) 0 0 (fun o ho => by
    unfold picks at ho
    obtain ⟨i, _, hi⟩ := List.mem_filterMap.1 ho
    have := hm.o o (List.mem_of_getElem? hi)
    unfold okB at this
    simp at this
    omega) (by omega) (by omega) (by omega)).2
  unfold costF
  omega
omit hm in
theorem imin_lt {a b : Int} (h : b < a) : imin a b = b := by unfold imin; rw [if_pos h]
omit hm in
theorem imin_ge {a b : Int} (h : a ≤ b) : imin a b = a := by unfold imin; rw [if_neg (by omega)]
/-- The least cost of those that do what is wanted. -/
def mcG (of : List S_api_Offer) (q : Nat → Bool) (s : Nat) (acc : Int) : Int := if q s = true then imin acc (costF of (sel of.length s)) else acc
def mc (of : List S_api_Offer) (q : Nat → Bool) (j : Nat) : Int := itr (mcG of q) j 1099511627776
omit hm in
theorem mc_succ (q : Nat → Bool) (j : Nat) : mc of q (j + 1) = if q j = true then imin (mc of q j) (costF of (sel of.length j)) else mc of q j := rfl
theorem f78_eq {P : Int → Option Bool} {q : Nat → Bool} (hP : ∀ s : Nat, s < 2 ^ of.length → P (s : Int) = some (q s)) :
    ∃ ch, M.f78 (P, ()) ((n : Int), kn, of) = some ch ∧ ((ch = (false, 0, 0) ∧ mc of q (2 ^ of.length) = 1099511627776 ∧ ∀ s, s < 2 ^ of.length → q s = false) ∨ (∃ t : Nat, ch = (true, mc of q (2 ^ of.length), (t : Int)) ∧ mc of q (2 ^ of.length) < 1099511627776)) := by
  have hp := hm.pow
  unfold M.f78
  obtain ⟨ch, e1, e2⟩ := forS_inv (N := 2 ^ of.length) (s := ((false, 0, 0) : S_keeper_choice)) (f := fun i_4 (s_6 : S_keeper_choice) =>
    (M.f82 i_4 ((n : Int), kn, of)) >>= fun v_10 =>
    (guardO (!(s_6 == ((false, 0, 0) : S_keeper_choice))) (M.f117 ((true, v_10, i_4) : S_keeper_choice) s_6)) >>= fun v_12 =>
    (guardO ((s_6 == ((false, 0, 0) : S_keeper_choice)) || v_12) (P i_4)) >>= fun v_14 =>
    (if (((s_6 == ((false, 0, 0) : S_keeper_choice)) || v_12) && v_14) = true then (
    some ((true, v_10, i_4) : S_keeper_choice))
    else (
    some s_6)) >>= fun y_17 =>
    some y_17)
    (fun j ch => (ch = (false, 0, 0) ∧ mc of q j = 1099511627776 ∧ ∀ s, s < j → q s = false) ∨ (∃ t : Nat, ch = (true, mc of q j, (t : Int)) ∧ mc of q j < 1099511627776)) (by omega) (.inl ⟨rfl, rfl, fun s h => by omega⟩) fun j ch hj hI => by
      have hc := cost_lt hm j
      rcases hI with ⟨rfl, h1, h2⟩ | ⟨t, rfl, h1⟩
      · refine ⟨if q j = true then (true, costF of (sel of.length j), (j : Int)) else (false, 0, 0), ?_, ?_⟩
        · refine bnd (hm.f82 hj) ?_
          simp only [beq_self_eq_true, Bool.not_true, guardO, Option.bind_eq_bind, Option.bind_some, Bool.true_or, hP j hj, Bool.true_and]
          cases q j <;> rfl
        · rw [mc_succ, h1]
          cases hq : q j with
          | true =>
            refine .inr ⟨j, ?_, ?_⟩
            · rw [if_pos rfl, if_pos rfl, imin_lt hc]
            · rw [if_pos rfl, imin_lt hc]; exact hc
          | false =>
            exact .inl ⟨by simp, by simp, fun s hs => by
              by_cases e : s = j
              · subst e; exact hq
              · exact h2 s (by omega)⟩
      · obtain ⟨r, e1, e2, e3⟩ := f117_eq (costF of (sel of.length j)) (mc of q j) j t
        have hz : (((true, mc of q j, (t : Int)) : S_keeper_choice) == ((false, 0, 0) : S_keeper_choice)) = false := rfl
        refine ⟨if (r && q j) = true then (true, costF of (sel of.length j), (j : Int)) else (true, mc of q j, (t : Int)), ?_, ?_⟩
        · refine bnd (hm.f82 hj) ?_
          simp only [hz, Bool.not_false, guardO, Option.bind_eq_bind, Option.bind_some, Bool.false_or, e1]
          cases r with
          | false => rfl
          | true =>
            simp only [hP j hj, Option.bind_some, Bool.true_and]
            cases q j <;> rfl
        · rw [mc_succ]
          refine .inr ?_
          cases hr : r with
          | false =>
            have hle : mc of q j ≤ costF of (sel of.length j) := by
              rcases Int.lt_or_le (costF of (sel of.length j)) (mc of q j) with h | h
              · rw [e2 h] at hr; cases hr
              · exact h
            simp only [Bool.false_and, Bool.false_eq_true, if_false]
            refine ⟨t, ?_, ?_⟩
            · rw [imin_ge hle]; split <;> rfl
            · rw [imin_ge hle]; split <;> exact h1
          | true =>
            have hle : costF of (sel of.length j) ≤ mc of q j := by
              rcases Int.lt_or_le (mc of q j) (costF of (sel of.length j)) with h | h
              · rw [e3 h] at hr; cases hr
              · exact h
            have hi : imin (mc of q j) (costF of (sel of.length j)) = costF of (sel of.length j) := by
              unfold imin; split
              · rfl
              · omega
            cases hq : q j with
            | true =>
              simp only [Bool.true_and, if_true, hi]
              exact ⟨j, rfl, hc⟩
            | false =>
              simp only [Bool.and_false, Bool.false_eq_true, if_false]
              exact ⟨t, rfl, h1⟩
  exact ⟨ch, bnd hm.shl (bnd e1 rfl), e2⟩
def qOn (n : Nat) (kn of : List S_api_Offer) (a b : Nat) (w : Int) (k s : Nat) : Bool := s.testBit k && decide (WdS n kn of s a b ≤ w)
def qOff (n : Nat) (kn of : List S_api_Offer) (a b : Nat) (w : Int) (k s : Nat) : Bool := !s.testBit k && decide (WdS n kn of s a b ≤ w)
def priceR (n : Nat) (kn of : List S_api_Offer) (a b : Nat) (w k : Int) : Int × Bool × Int :=
  if 0 ≤ k ∧ k < (of.length : Int) then
    if WdS n kn of (2 ^ of.length - 1) a b ≤ w then
      if 1099511627776 ≤ mc of (qOff n kn of a b w k.toNat) (2 ^ of.length) then (0, false, 0)
      else (wr (mc of (qOff n kn of a b w k.toNat) (2 ^ of.length) - mc of (qOn n kn of a b w k.toNat) (2 ^ of.length)), true, 0)
    else (0, false, 4)
  else (0, false, 1)
omit hm in
theorem bit_zero {v i : Nat} : (band ((v / 2 ^ i : Nat) : Int) 1 == 0) = !v.testBit i := by
  rw [← bit_of, band_one]
  have h : v / 2 ^ i % 2 < 2 := Nat.mod_lt _ (by decide)
  generalize v / 2 ^ i % 2 = q at *
  have : q = 0 ∨ q = 1 := by omega
  rcases this with rfl | rfl <;> rfl
omit hm in
theorem mc_lt {q : Nat → Bool} {N s : Nat} (hs : s < N) (hq : q s = true) (hc : ∀ j, costF of (sel of.length j) < 1099511627776) : mc of q N < 1099511627776 := by
  have le : ∀ k, mc of q k ≤ 1099511627776 := by
    intro k
    induction k with
    | zero => exact Int.le_refl _
    | succ k ih =>
      rw [mc_succ]
      have := hc k
      split
      · unfold imin; split <;> omega
      · exact ih
  induction N with
  | zero => omega
  | succ N ih =>
    rw [mc_succ]
    by_cases e : s = N
    · subst e
      rw [if_pos hq]
      have := hc s
      have := le s
      unfold imin; split <;> omega
    · have h1 := ih (by omega)
      have h2 := hc N
      split
      · unfold imin; split <;> omega
      · exact h1
theorem f20_eq {a b : Nat} (ha : a < n) (hb : b < n) {w : Int} (hc : code ((n : Int), kn, of) a b w = 0) (k : Int) : M.f20 ((n : Int), kn, of) a b w k = some (priceR n kn of a b w k) := by
  have hp := hm.pos
  have h6 := hm.lo
  unfold M.f20 priceR
  refine bnd (f76_eq _ _ _ _) ?_
  rw [hc]
  simp only [bne_self_eq_false, Bool.false_eq_true, if_false]
  by_cases hk : 0 ≤ k ∧ k < (of.length : Int)
  · rw [if_pos hk]
    have h0 : (decide (k < 0) || decide ((of.length : Int) ≤ k)) = false := by simp; omega
    rw [if_neg (by show ¬ (decide (k < 0) || decide ((of.length : Int) ≤ k)) = true; rw [h0]; simp)]
    refine bnd (f69_eq hm ha hb hc) ?_
    by_cases hr : WdS n kn of (2 ^ of.length - 1) a b ≤ w
    · rw [if_pos hr, if_pos hr]
      simp only [bne_self_eq_false, Bool.false_eq_true, if_false]
      obtain ⟨k', rfl⟩ : ∃ k' : Nat, k = (k' : Int) := ⟨k.toNat, by omega⟩
      simp only [Int.toNat_natCast]
      have hk' : k' < of.length := by omega
      have hs1 : ∀ s : Nat, s < 2 ^ of.length → M.f77 (s : Int) (k' : Int) (((fun x0 => M.f116 x0 ((n : Int), kn, of) a b w) : (Int → Option Bool)), ()) = some (qOn n kn of a b w k' s) := fun s hs => by
        unfold M.f77 qOn
        refine bnd (shr_nat (by omega)) ?_
        rw [bit_of]
        cases hq : s.testBit k' with
        | false => rfl
        | true => exact bnd (hm.f116 hs ha hb w) rfl
      have hs2 : ∀ s : Nat, s < 2 ^ of.length → M.f79 (s : Int) (k' : Int) (((fun x0 => M.f116 x0 ((n : Int), kn, of) a b w) : (Int → Option Bool)), ()) = some (qOff n kn of a b w k' s) := fun s hs => by
        unfold M.f79 qOff
        refine bnd (shr_nat (by omega)) ?_
        rw [bit_zero]
        cases hq : s.testBit k' with
        | true => rfl
        | false => exact bnd (hm.f116 hs ha hb w) rfl
      obtain ⟨c1, e1, h1⟩ := f78_eq hm (P := fun x0 => M.f77 x0 (k' : Int) (((fun x0 => M.f116 x0 ((n : Int), kn, of) a b w) : (Int → Option Bool)), ())) hs1
      obtain ⟨c2, e2, h2⟩ := f78_eq hm (P := fun x0 => M.f79 x0 (k' : Int) (((fun x0 => M.f116 x0 ((n : Int), kn, of) a b w) : (Int → Option Bool)), ())) hs2
      refine bnd rfl (bnd e1 (bnd e2 ?_))
      have hall : qOn n kn of a b w k' (2 ^ of.length - 1) = true := by
        unfold qOn
        rw [Nat.testBit_two_pow_sub_one]
        simp [hk', hr]
      rcases h1 with ⟨_, _, h1⟩ | ⟨t1, rfl, h1⟩
      · rw [h1 _ (by omega)] at hall; cases hall
      · rcases h2 with ⟨rfl, h2, _⟩ | ⟨t2, rfl, h2⟩
        · rw [if_pos (by rfl), if_pos (by omega)]
        · rw [if_neg (by show ¬ (((true, mc of (qOff n kn of a b w k') (2 ^ of.length), (t2 : Int)) : S_keeper_choice) == ((false, 0, 0) : S_keeper_choice)) = true; intro h; cases h), if_neg (by omega)]
    · rw [if_neg hr, if_neg hr]
      rfl
  · rw [if_neg hk]
    have h0 : (decide (k < 0) || decide ((of.length : Int) ≤ k)) = true := by simp; omega
    rw [if_pos h0]
theorem f21_eq {a b : Nat} (ha : a < n) (hb : b < n) {w : Int} (hw : w ≤ 16777216) (hc : code ((n : Int), kn, of) a b w = 0) (k : Int) : M.f21 1000 ((n : Int), kn, of) a b w k = some (priceR n kn of a b w k) := by
  have hp := hm.pos
  have hp2 := hm.pow
  have h6 := hm.lo
  unfold M.f21 priceR
  refine bnd (f72_eq _ _ _ _) ?_
  rw [hc]
  simp only [bne_self_eq_false, Bool.false_eq_true, if_false]
  refine bnd (f80_eq _ _ _) ?_
  have hwr : wr ((of.length : Int) - 1) = (of.length : Int) - 1 := wr_id (by omega) (by omega)
  by_cases hk : 0 ≤ k ∧ k < (of.length : Int)
  · rw [if_pos hk]
    have h0 : (decide (0 ≤ k) && decide (k ≤ wr ((of.length : Int) - 1))) = true := by rw [hwr]; simp; omega
    rw [if_neg (by show ¬ (!(decide (0 ≤ k) && decide (k ≤ wr ((of.length : Int) - 1)))) = true; rw [h0]; simp)]
    refine bnd hm.f75 (bnd hm.f74 (bnd (hm.f73 ha hb w hw) ?_))
    by_cases hr : WdS n kn of (2 ^ of.length - 1) a b ≤ w
    · rw [if_pos hr]
      simp only [hr, decide_true, Bool.not_true, Bool.false_eq_true, if_false]
      obtain ⟨k', rfl⟩ : ∃ k' : Nat, k = (k' : Int) := ⟨k.toNat, by omega⟩
      simp only [Int.toNat_natCast]
      have hk' : k' < of.length := by omega
      have hit : ∀ N, itr (fun s (p : Int × Int) => (mcG of (qOn n kn of a b w k') s p.1, mcG of (qOff n kn of a b w k') s p.2)) N (1099511627776, 1099511627776) = (mc of (qOn n kn of a b w k') N, mc of (qOff n kn of a b w k') N) := by
        intro N
        induction N with
        | zero => rfl
        | succ N ih => simp only [itr, ih]; rfl
      refine bnd (loopM_map (N := 2 ^ of.length) (t0 := ((1099511627776, 1099511627776) : Int × Int)) (fun s (p : Int × Int) => (mcG of (qOn n kn of a b w k') s p.1, mcG of (qOff n kn of a b w k') s p.2)) (fun s p => (p.1, p.2, (s : Int))) (fun p => p) (by omega) (fun s p hs => ?_) (fun p => ?_)) ?_
      · refine bnd hm.shl ?_
        rw [if_pos (by rw [decide_eq_true_eq]; exact Int.ofNat_lt.2 hs)]
        refine bnd hm.f74 (bnd (hm.f73 ha hb w hw) ?_)
        rw [wr_id (show -9223372036854775808 ≤ ((s : Int) + 1) by omega) (by omega)]
        unfold mcG qOn qOff
        cases hq : decide (WdS n kn of s a b ≤ w) with
        | false =>
          simp only [Bool.and_false, Bool.false_eq_true, if_false]
          rfl
        | true =>
          simp only [Bool.not_true, Bool.false_eq_true, if_false, Bool.and_true]
          refine bnd (shr_nat (by omega)) ?_
          rw [bit_of]
          cases hb : s.testBit k' with
          | true => exact bnd (bnd hm.f81 rfl) rfl
          | false => exact bnd (bnd hm.f81 rfl) rfl
      · refine bnd hm.shl ?_
        rw [if_neg (by simp)]
      · rw [hit]
        show (if decide (1099511627776 ≤ mc of (qOff n kn of a b w k') (2 ^ of.length)) = true then some (0, false, 0) else some (wr (mc of (qOff n kn of a b w k') (2 ^ of.length) - mc of (qOn n kn of a b w k') (2 ^ of.length)), true, 0)) = _
        by_cases h : 1099511627776 ≤ mc of (qOff n kn of a b w k') (2 ^ of.length) <;> simp [h]
    · rw [if_neg hr]
      simp [hr]
  · rw [if_neg hk]
    have h0 : (decide (0 ≤ k) && decide (k ≤ wr ((of.length : Int) - 1))) = false := by rw [hwr]; simp; omega
    rw [if_pos (by show (!(decide (0 ≤ k) && decide (k ≤ wr ((of.length : Int) - 1)))) = true; rw [h0]; rfl)]
end
end Go.Proofs.Ytkbilbeaedocjaa
