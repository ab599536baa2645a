/-
  What is proved: on valid markets the widths of keeper and of the specification are the same table; the checks agree.
-/
import Derived.Test.YtkbilbeaedocjaaModelC
import Derived.Test.YtkbilbeaedocjaaPlain
import Derived.KernelRfl
namespace Go.Proofs.Ytkbilbeaedocjaa
open Go Go.Proofs.Ytkbilbeaedocjaa.Wh


/-! ### validity -/
def okB (n : Int) (c : Int) (o : S_api_Offer) : Bool := decide (0 ≤ o.1) && decide (o.1 < n) && decide (0 ≤ o.2.1) && decide (o.2.1 < n) && (o.1 != o.2.1) && decide (0 ≤ o.2.2.2) && decide (o.2.2.2 ≤ 1048576) && decide (0 ≤ o.2.2.1) && decide (o.2.2.1 ≤ c)
theorem f95_eq (o : S_api_Offer) (n c : Int) : M.f95 o n c = some (okB n c o) := rfl
theorem f80_eq (x a b : Int) : M.f80 x a b = some (decide (a ≤ x) && decide (x ≤ b)) := rfl
theorem guardO_bool (G v : Bool) : guardO G (some v) = some (G && v) := by cases G <;> rfl
theorem f96_eq (o : S_api_Offer) (n c : Int) (h1 : 2 ≤ n) (h2 : n ≤ 8) : M.f96 o n c = some (okB n c o) := by
  have hw : wr (n - 1) = n - 1 := wr_id (by omega) (by omega)
  have e : ∀ x : Int, decide (x ≤ n - 1) = decide (x < n) := fun x => by apply Bool.eq_iff_iff.2; simp; omega
  unfold M.f96 okB
  simp only [f80_eq, hw, e, Option.bind_eq_bind, Option.bind_some, guardO_bool]
  congr 1
  generalize decide (0 ≤ o.1) = a1, decide (o.1 < n) = a2, decide (0 ≤ o.2.1) = a3, decide (o.2.1 < n) = a4, (o.1 != o.2.1) = a5, decide (0 ≤ o.2.2.2) = a6, decide (o.2.2.2 ≤ 1048576) = a7, decide (0 ≤ o.2.2.1) = a8, decide (o.2.2.1 ≤ c) = a9
  revert a1 a2 a3 a4 a5 a6 a7 a8 a9
  decide
theorem all_take {α : Type} {xs : List α} {q : α → Bool} {j : Nat} {x : α} (h : xs[j]? = some x) : (xs.take (j + 1)).all q = ((xs.take j).all q && q x) := by
  rw [List.take_add_one, List.all_append, h]
  simp
/-- A loop that leaves at the first that is not so. -/
theorem forM_all {α ρ : Type} (xs : List α) (hx : xs.length ≤ 4294967296) (q : α → Bool) (r : ρ) (f : Int → Unit → Option (Out Unit ρ)) (h : ∀ (i : Nat) (x : α), xs[i]? = some x → f (i : Int) () = some (if q x = true then .again () else .leave r)) :
    forM 0 (xs.length : Int) () f = some (if xs.all q = true then .again () else .leave r) := by
  obtain ⟨o, h1, h2⟩ := forM_inv (f := f) (fun j (_ : Unit) => (xs.take j).all q = true) (fun r' => r' = r ∧ xs.all q = false) hx (s := ()) (by simp) fun j s hj hs => by
    have hx' := List.getElem?_eq_getElem hj
    refine ⟨_, h j xs[j] hx', ?_⟩
    cases hq : q xs[j] with
    | true =>
      simp only [if_true, OutP]
      rw [all_take hx', hs, hq]; rfl
    | false =>
      simp only [Bool.false_eq_true, if_false, OutP, true_and]
      rw [List.all_eq_false]
      exact ⟨xs[j], by simp, by simp [hq]⟩
  rw [h1]
  cases o with
  | again s =>
    simp only [OutP, List.take_length] at h2
    rw [if_pos h2]
  | leave r' =>
    obtain ⟨rfl, h3⟩ := h2
    rw [h3]; rfl
theorem loopM_all {α ρ : Type} (xs : List α) (q : α → Bool) (r d : ρ) (fuel : Nat) (hf : xs.length < fuel) (f : Int → Option (Out Int ρ)) (h : ∀ (i : Nat) (x : α), xs[i]? = some x → f (i : Int) = some (if q x = true then .again ((i + 1 : Nat) : Int) else .leave r)) (he : f (xs.length : Int) = some (.leave d)) :
    loopM f fuel 0 = some (if xs.all q = true then d else r) := by
  obtain ⟨r', h1, h2⟩ := loopM_inv (f := f) (fun m s => m ≤ xs.length ∧ s = ((xs.length - m : Nat) : Int) ∧ (xs.take (xs.length - m)).all q = true) (fun r' => r' = if xs.all q = true then d else r) fuel xs.length 0 hf ⟨Nat.le_refl _, by simp, by simp⟩ fun m s ⟨hm, hs, ha⟩ => by
    subst hs
    cases m with
    | zero =>
      refine ⟨_, he, ?_⟩
      simp only [Nat.sub_zero, List.take_length] at ha
      simp [OutP, ha]
    | succ m =>
      have hj : xs.length - (m + 1) < xs.length := by omega
      have hx' := List.getElem?_eq_getElem hj
      refine ⟨_, h _ _ hx', ?_⟩
      cases hq : q xs[xs.length - (m + 1)] with
      | true =>
        simp only [if_true, OutP]
        refine ⟨m, by omega, by omega, ?_, ?_⟩
        · rw [show xs.length - (m + 1) + 1 = xs.length - m from by omega]
        · rw [show xs.length - m = (xs.length - (m + 1)) + 1 from by omega, all_take hx', ha, hq]; rfl
      | false =>
        simp only [Bool.false_eq_true, if_false, OutP]
        rw [if_neg]
        rw [Bool.not_eq_true, List.all_eq_false]
        exact ⟨_, List.getElem_mem hj, by simp [hq]⟩
  rw [h1, h2]
def validB (m : S_api_Market) : Bool := decide (2 ≤ m.1) && decide (m.1 ≤ 8) && decide (m.2.1.length ≤ 24) && decide (m.2.2.length ≤ 12) && m.2.1.all (okB m.1 0) && m.2.2.all (okB m.1 10000)
theorem f41_eq (m : S_api_Market) : M.f41 m = some (if validB m = true then 0 else 80) := by
  unfold M.f41
  split
  · rename_i h
    rw [if_neg]
    unfold validB
    intro hv
    simp at h hv
    omega
  · rename_i h
    have hk : m.2.1.length ≤ 24 := by simp at h; omega
    have ho : m.2.2.length ≤ 12 := by simp at h; omega
    have hv : validB m = (m.2.1.all (okB m.1 0) && m.2.2.all (okB m.1 10000)) := by
      unfold validB
      simp at h
      have h1 : decide (2 ≤ m.1) = true := by simp; omega
      have h2 : decide (m.1 ≤ 8) = true := by simp; omega
      have h3 : decide (m.2.1.length ≤ 24) = true := by simp; omega
      have h4 : decide (m.2.2.length ≤ 12) = true := by simp; omega
      rw [h1, h2, h3, h4]; simp
    rw [forM_all m.2.1 (by omega) (okB m.1 0) (80 : Int) _ (fun i x hx => by rw [idx_nat, hx]; simp [f95_eq]; cases okB m.1 0 x <;> rfl)]
    rw [hv]
    cases h5 : m.2.1.all (okB m.1 0) with
    | false => simp [Out.elim]
    | true =>
      simp only [if_true, Option.bind_eq_bind, Option.bind_some, Out.elim, Bool.true_and]
      rw [forM_all m.2.2 (by omega) (okB m.1 10000) (80 : Int) _ (fun i x hx => by rw [idx_nat, hx]; simp [f95_eq]; cases okB m.1 10000 x <;> rfl)]
      cases h6 : m.2.2.all (okB m.1 10000) <;> simp [Out.elim]
theorem f42_eq (m : S_api_Market) : M.f42 1000 m = some (if validB m = true then 0 else 80) := by
  unfold M.f42
  simp only [f80_eq, Option.bind_eq_bind, Option.bind_some]
  split
  · rename_i h
    rw [if_neg]
    unfold validB
    intro hv
    simp at h hv
    omega
  · rename_i h
    have h1 : 2 ≤ m.1 := by simp at h; omega
    have h2 : m.1 ≤ 8 := by simp at h; omega
    have hk : m.2.1.length ≤ 24 := by simp at h; omega
    have ho : m.2.2.length ≤ 12 := by simp at h; omega
    have hv : validB m = (m.2.1.all (okB m.1 0) && m.2.2.all (okB m.1 10000)) := by
      unfold validB
      have h1 : decide (2 ≤ m.1) = true := by simp; omega
      have h2 : decide (m.1 ≤ 8) = true := by simp; omega
      have h3 : decide (m.2.1.length ≤ 24) = true := by simp; omega
      have h4 : decide (m.2.2.length ≤ 12) = true := by simp; omega
      rw [h1, h2, h3, h4]; simp
    have step : ∀ (c : Int) (xs : List S_api_Offer) (hl : xs.length ≤ 24) (i : Nat) (x : S_api_Offer), xs[i]? = some x →
        (if decide ((i : Int) < (xs.length : Int)) = true then (idx xs (i : Int)).bind fun v => (M.f96 v m.1 c).bind fun b => if (!b) = true then some (.leave (.inr 80)) else some (.again (wr ((i : Int) + 1))) else some (.leave (.inl ()))) =
          some (if okB m.1 c x = true then (.again ((i + 1 : Nat) : Int) : Out Int (Unit ⊕ Int)) else .leave (.inr 80)) := by
      intro c xs hl i x hx
      have hi := (List.getElem?_eq_some_iff.1 hx).1
      rw [if_pos (by simpa using hi), idx_nat, hx]
      simp only [Option.bind_some, f96_eq x m.1 c h1 h2]
      cases okB m.1 c x with
      | false => rfl
      | true =>
        rw [wr_id (by omega) (by omega)]
        rfl
    have he : ∀ (xs : List S_api_Offer) (k : Option (Out Int (Unit ⊕ Int))), (if decide ((xs.length : Int) < (xs.length : Int)) = true then k else some (.leave (.inl ()))) = some (.leave (.inl ())) := fun xs k => by
      rw [if_neg (by simp)]
    rw [loopM_all m.2.1 (okB m.1 0) (.inr 80) (.inl ()) 1000 (by omega) _ (step 0 m.2.1 hk) (he _ _), hv]
    cases h5 : m.2.1.all (okB m.1 0) with
    | false => rfl
    | true =>
      simp only [if_true, Option.bind_some, sumE, Bool.true_and]
      rw [loopM_all m.2.2 (okB m.1 10000) (.inr 80) (.inl ()) 1000 (by omega) _ (step 10000 m.2.2 (by omega)) (he _ _)]
      cases h6 : m.2.2.all (okB m.1 10000) <;> rfl
/-- The code that both give for a market, two clocks and a number. -/
def code (m : S_api_Market) (a b w : Int) : Int := if validB m = true then (if 0 ≤ a ∧ a < m.1 ∧ 0 ≤ b ∧ b < m.1 ∧ 0 ≤ w ∧ w ≤ 16777216 then 0 else 1) else 80
theorem f76_eq (m : S_api_Market) (a b w : Int) : M.f76 m [] ([a, b], [w]) = some (code m a b w) := by
  unfold M.f76 code
  simp only [f41_eq, Option.bind_eq_bind, Option.bind_some]
  cases hv : validB m with
  | false => simp
  | true =>
    rw [if_pos rfl, if_pos rfl]
    simp only [bne_self_eq_false, Bool.false_eq_true, if_false]
    simp only [Wh.forM, List.length_cons, List.length_nil, idx, Out.elim]
    have n0 : ((((0 : Nat) : Int) - 0).toNat) = 0 := rfl
    have n2 : ((((0 + 1 + 1 : Nat) : Int) - 0).toNat) = 2 := rfl
    have n1 : ((((0 + 1 : Nat) : Int) - 0).toNat) = 1 := rfl
    simp only [n0, n1, n2, forFrom]
    by_cases h1 : a < 0 ∨ m.1 ≤ a
    · have : ¬ (0 ≤ a ∧ a < m.1 ∧ 0 ≤ b ∧ b < m.1 ∧ 0 ≤ w ∧ w ≤ 16777216) := by omega
      rw [if_neg this]
      simp [h1]
    · by_cases h2 : b < 0 ∨ m.1 ≤ b
      · have : ¬ (0 ≤ a ∧ a < m.1 ∧ 0 ≤ b ∧ b < m.1 ∧ 0 ≤ w ∧ w ≤ 16777216) := by omega
        rw [if_neg this]
        simp [h1, h2]
      · by_cases h3 : w < 0 ∨ 16777216 < w
        · have : ¬ (0 ≤ a ∧ a < m.1 ∧ 0 ≤ b ∧ b < m.1 ∧ 0 ≤ w ∧ w ≤ 16777216) := by omega
          rw [if_neg this]
          simp [h1, h2, h3]
        · have hc : (0 ≤ a ∧ a < m.1 ∧ 0 ≤ b ∧ b < m.1 ∧ 0 ≤ w ∧ w ≤ 16777216) := by omega
          rw [if_pos hc]
          simp [h1, h2, h3]
theorem f72_eq (m : S_api_Market) (a b w : Int) : M.f72 1000 m [] w [a, b] = some (code m a b w) := by
  unfold M.f72 code
  simp only [f42_eq, Option.bind_eq_bind, Option.bind_some]
  cases hv : validB m with
  | false => simp
  | true =>
    have hm : 2 ≤ m.1 ∧ m.1 ≤ 8 := by unfold validB at hv; simp at hv; omega
    have hw : wr (m.1 - 1) = m.1 - 1 := wr_id (by omega) (by omega)
    have w1 : wr (0 + 1) = 1 := wr_id (by omega) (by omega)
    have w2 : wr (1 + 1) = 2 := wr_id (by omega) (by omega)
    have e88 : M.f88 1000 m [] = some true := by
      unfold M.f88
      simp [loopM, sumE]
    rw [if_pos rfl, if_pos rfl]
    simp only [bne_self_eq_false, Bool.false_eq_true, if_false, e88, Option.bind_some, Bool.not_true, f80_eq, hw]
    rw [loopM_all [a, b] (fun x => decide (0 ≤ x) && decide (x ≤ m.1 - 1)) (.inr 1) (.inl ()) 1000 (by simp) _ (fun i x hx => by
        have hi := (List.getElem?_eq_some_iff.1 hx).1
        have hi2 : i < 2 := hi
        rw [if_pos (by simp; omega), idx_nat, hx]
        simp only [Option.bind_some]
        cases (decide (0 ≤ x) && decide (x ≤ m.1 - 1)) with
        | false => rfl
        | true =>
          rw [wr_id (by omega) (by omega)]
          rfl) (by rw [if_neg (by simp)])]
    by_cases hc : (0 ≤ a ∧ a < m.1 ∧ 0 ≤ b ∧ b < m.1 ∧ 0 ≤ w ∧ w ≤ 16777216)
    · have q1 : ([a, b].all fun x => decide (0 ≤ x) && decide (x ≤ m.1 - 1)) = true := by simp; omega
      have q2 : (decide (0 ≤ w) && decide (w ≤ 16777216)) = true := by simp; omega
      rw [q1, q2, if_pos hc]
      rfl
    · rw [if_neg hc]
      cases q1 : ([a, b].all fun x => decide (0 ≤ x) && decide (x ≤ m.1 - 1)) with
      | false => rfl
      | true =>
        have q2 : (decide (0 ≤ w) && decide (w ≤ 16777216)) = false := by
          simp at q1 ⊢; omega
        rw [q2]
        rfl
end Go.Proofs.Ytkbilbeaedocjaa
