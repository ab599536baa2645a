/-
  What is proved: what CheckPath answers, here and in the specification.
-/
import Derived.Test.YtkbilbeaedocjaaKeepU
import Derived.Test.YtkbilbeaedocjaaModelN
namespace Go.Proofs.Ytkbilbeaedocjaa
open Go Go.Proofs.Ytkbilbeaedocjaa.Wh
set_option maxRecDepth 100000

/-! ### a single step -/
def linkI (o : S_api_Offer) (x y : Int) : Bool := (o.1 == x && o.2.1 == y) || (o.1 == y && o.2.1 == x)
def stF (x y : Int) (m : Int) (o : S_api_Offer) : Int := if linkI o x y = true then imin m o.2.2.2 else m
theorem stF_fold (x y : Int) : ∀ (cs : List S_api_Offer) (m : Int), cs.foldl (stF x y) m ≤ m ∧ (∀ o ∈ cs, linkI o x y = true → cs.foldl (stF x y) m ≤ o.2.2.2) ∧ (cs.foldl (stF x y) m = m ∨ ∃ o ∈ cs, linkI o x y = true ∧ cs.foldl (stF x y) m = o.2.2.2)
  | [], m => ⟨Int.le_refl _, fun o ho => (by cases ho), .inl rfl⟩
  | o :: cs, m => by
    obtain ⟨h1, h2, h3⟩ := stF_fold x y cs (stF x y m o)
    simp only [List.foldl_cons]
    have key : stF x y m o ≤ m ∧ (linkI o x y = true → stF x y m o ≤ o.2.2.2) ∧ (stF x y m o = m ∨ (linkI o x y = true ∧ stF x y m o = o.2.2.2)) := by
      unfold stF imin
      by_cases q : linkI o x y = true
      · simp only [q, if_true]
        split <;> simp <;> omega
      · simp only [q, if_false]
        simp
    refine ⟨by omega, fun p hp hl => ?_, ?_⟩
    · rcases List.mem_cons.1 hp with e | e
      · subst e; have := key.2.1 hl; omega
      · exact h2 p e hl
    · rcases h3 with e | ⟨p, hp, hl, e⟩
      · rcases key.2.2 with k | ⟨k1, k2⟩
        · exact .inl (by rw [e, k])
        · exact .inr ⟨o, by simp, k1, by rw [e, k2]⟩
      · exact .inr ⟨p, by simp [hp], hl, e⟩
def stI (n : Nat) (S : Nat → Nat → Int) (x y : Int) : Int := if 0 ≤ x ∧ x < (n : Int) ∧ 0 ≤ y ∧ y < (n : Int) then S x.toNat y.toNat else 1099511627776
theorem linkI_iff {o : S_api_Offer} {a b : Nat} : linkI o (a : Int) (b : Int) = true ↔ link o a b := by
  unfold linkI link; simp
theorem fold_st {n : Nat} {c : Int} {cs : List S_api_Offer} (h : ∀ o ∈ cs, okB (n : Int) c o = true) (x y : Int) : cs.foldl (stF x y) 1099511627776 = stI n (Stp cs) x y := by
  have hs := st_steps h
  obtain ⟨h1, h2, h3⟩ := stF_fold x y cs 1099511627776
  unfold stI
  by_cases q : 0 ≤ x ∧ x < (n : Int) ∧ 0 ≤ y ∧ y < (n : Int)
  · rw [if_pos q]
    obtain ⟨a, rfl⟩ := Int.eq_ofNat_of_zero_le q.1
    obtain ⟨b, rfl⟩ := Int.eq_ofNat_of_zero_le q.2.2.1
    simp only [Int.toNat_natCast]
    have hf := hs.far a b
    unfold Wh.far at hf
    apply Int.le_antisymm
    · by_cases e : Stp cs a b < Wh.far
      · obtain ⟨o, ho, hl, e2⟩ := hs.at_ a b e
        rw [e2]
        exact h2 o ho (linkI_iff.2 hl)
      · unfold Wh.far at e; omega
    · rcases h3 with e | ⟨o, ho, hl, e⟩
      · rw [e]; exact hf
      · rw [e]; exact hs.le o ho a b (linkI_iff.1 hl)
  · rw [if_neg q]
    rcases h3 with e | ⟨o, ho, hl, e⟩
    · exact e
    · exfalso
      have := h o ho
      unfold okB at this
      unfold linkI at hl
      simp at this hl
      omega
theorem f114_eq {n : Nat} {c : Int} {cs : List S_api_Offer} (h : ∀ o ∈ cs, okB (n : Int) c o = true) (hl : cs.length ≤ 40) (x y : Int) : M.f114 1000 cs x y = some (stI n (Stp cs) x y) := by
  rw [← fold_st h x y]
  unfold M.f114
  refine bnd (loopM_go (N := cs.length) (fun j => ((cs.take j).foldl (stF x y) 1099511627776, (j : Int))) (cs.foldl (stF x y) 1099511627776) rfl (by omega) (fun j hj => ?_) ?_) rfl
  · rw [if_pos (by simpa using hj)]
    have hx := List.getElem?_eq_getElem hj
    rw [take_foldl hx]
    simp only [idx_nat, hx]
    generalize cs[j] = o
    generalize (cs.take j).foldl (stF x y) 1099511627776 = m
    simp only [Option.bind_eq_bind, Option.bind_some]
    rw [wr_id (show -9223372036854775808 ≤ ((j : Int) + 1) by omega) (by omega)]
    have e0 : stF x y m o = if linkI o x y = true then imin m o.2.2.2 else m := rfl
    unfold linkI at e0
    cases h1 : (o.1 == x) <;> cases h2 : (o.2.1 == y) <;> cases h3 : (o.1 == y) <;> cases h4 : (o.2.1 == x) <;> rw [h1, h2, h3, h4] at e0 <;> simp only [Bool.and_true, Bool.and_false, Bool.or_false, Bool.or_true, Bool.false_or, Bool.true_or, if_true, if_false, Bool.false_eq_true] at e0 <;> rw [e0] <;> simp only [h1, h2, h3, h4, guardO, Bool.and_true, Bool.and_false, Bool.true_and, Bool.false_and, Bool.or_false, Bool.or_true, Bool.not_true, Bool.not_false, Bool.false_or, Bool.true_or, Option.bind_some, if_true, if_false, Bool.false_eq_true] <;> rfl
  · rw [if_neg (by simp), List.take_length]
/-! ### a way -/
def pAt (p : List Int) (i : Nat) : Int := (p[i]?).getD 0
def sumTo (st : Int → Int → Int) (p : List Int) : Nat → Int
  | 0 => 0
  | j + 1 => if j = 0 then 0 else sumTo st p j + st (pAt p (j - 1)) (pAt p j)
def goodTo (st : Int → Int → Int) (p : List Int) (j : Nat) : Prop := ∀ i, 1 ≤ i → i < j → st (pAt p (i - 1)) (pAt p i) < 1099511627776
def ends (a b : Nat) (p : List Int) : Bool := decide (1 ≤ p.length) && decide (p.length ≤ 64) && (pAt p 0 == (a : Int)) && (pAt p (p.length - 1) == (b : Int))
open Classical in
noncomputable def cpR (n : Nat) (S : Nat → Nat → Int) (a b : Nat) (w : Int) (p : List Int) : Int :=
  if ends a b p = true ∧ goodTo (stI n S) p p.length ∧ sumTo (stI n S) p p.length ≤ w then 0 else 32
theorem stI_range {n : Nat} {S : Nat → Nat → Int} (hS : ∀ a b, 0 ≤ S a b ∧ S a b ≤ 1099511627776) (x y : Int) : 0 ≤ stI n S x y ∧ stI n S x y ≤ 1099511627776 := by
  unfold stI
  split
  · exact hS _ _
  · omega
theorem sumTo_range {n : Nat} {S : Nat → Nat → Int} (hS : ∀ a b, 0 ≤ S a b ∧ S a b ≤ 1099511627776) (p : List Int) : ∀ j, 0 ≤ sumTo (stI n S) p j ∧ sumTo (stI n S) p j ≤ 1099511627776 * (j : Int)
  | 0 => by unfold sumTo; omega
  | j + 1 => by
    have h1 := sumTo_range (n := n) hS p j
    have h2 := stI_range (n := n) hS (pAt p (j - 1)) (pAt p j)
    unfold sumTo
    split <;> omega
theorem sumTo_mono {n : Nat} {S : Nat → Nat → Int} (hS : ∀ a b, 0 ≤ S a b ∧ S a b ≤ 1099511627776) (p : List Int) {i : Nat} (hi : 1 ≤ i) : ∀ {j : Nat}, i < j → stI n S (pAt p (i - 1)) (pAt p i) ≤ sumTo (stI n S) p j
  | 0, h => absurd h (by omega)
  | j + 1, h => by
    have h2 := stI_range (n := n) hS (pAt p (j - 1)) (pAt p j)
    have h1 := sumTo_range (n := n) hS p j
    unfold sumTo
    rw [if_neg (by omega)]
    by_cases q : i = j
    · subst q; omega
    · have := sumTo_mono (n := n) hS p hi (j := j) (by omega)
      omega
theorem pAt_idx {p : List Int} {i : Nat} (h : i < p.length) : idx p (i : Int) = some (pAt p i) := by
  rw [idx_nat]; unfold pAt; rw [List.getElem?_eq_getElem h]; rfl
/-- The first tests of both. -/
theorem ends_test (p : List Int) (a b : Nat) {α : Type} (u v : Option α) :
    ((guardO (!((decide ((p.length : Int) < 1)) || (decide (64 < (p.length : Int))))) (idx p 0)) >>= fun v_3 =>
     (guardO (!(((decide ((p.length : Int) < 1)) || (decide (64 < (p.length : Int)))) || (v_3 != (a : Int)))) (idx p (wr ((p.length : Int) - 1)))) >>= fun v_5 =>
     (if ((((decide ((p.length : Int) < 1)) || (decide (64 < (p.length : Int)))) || (v_3 != (a : Int))) || (v_5 != (b : Int))) = true then u else v)) = if ends a b p = true then v else u := by
  by_cases h : p.length < 1 ∨ 64 < p.length
  · have e1 : ((decide ((p.length : Int) < 1)) || (decide (64 < (p.length : Int)))) = true := by simp; omega
    rw [e1]
    have e2 : ends a b p = false := by unfold ends; rcases h with h | h <;> simp <;> omega
    rw [e2]
    simp [guardO]
  · have e1 : ((decide ((p.length : Int) < 1)) || (decide (64 < (p.length : Int)))) = false := by simp; omega
    rw [e1]
    have h0 : idx p 0 = some (pAt p 0) := pAt_idx (i := 0) (by omega)
    have hl : idx p (wr ((p.length : Int) - 1)) = some (pAt p (p.length - 1)) := by
      rw [wr_id (by omega) (by omega), show ((p.length : Int) - 1) = ((p.length - 1 : Nat) : Int) from by omega]
      exact pAt_idx (by omega)
    rw [h0, hl]
    have e2 : ends a b p = ((pAt p 0 == (a : Int)) && (pAt p (p.length - 1) == (b : Int))) := by
      unfold ends
      rw [decide_eq_true (show 1 ≤ p.length by omega), decide_eq_true (show p.length ≤ 64 by omega)]
      simp
    rw [e2]
    cases h3 : (pAt p 0 == (a : Int)) with
    | false => simp only [guardO, bne, h3, Option.bind_eq_bind, Option.bind_some, Bool.not_false, Bool.false_or, Bool.or_true, Bool.true_or, Bool.not_true, Bool.false_and, if_true, if_false, Bool.false_eq_true]
    | true =>
      cases h4 : (pAt p (p.length - 1) == (b : Int)) <;> simp only [guardO, bne, h3, h4, Option.bind_eq_bind, Option.bind_some, Bool.not_false, Bool.false_or, Bool.or_true, Bool.or_false, Bool.true_or, Bool.not_true, Bool.true_and, Bool.false_and, if_true, if_false, Bool.false_eq_true]
section
variable {n : Nat} {kn of : List S_api_Offer} (hm : Ok n kn of)
include hm
theorem Ok.st_range (s : Nat) (a b : Nat) : 0 ≤ Stp (csS kn of s) a b ∧ Stp (csS kn of s) a b ≤ 1099511627776 := ⟨(hm.st s).pos a b, (hm.st s).far a b⟩
theorem Ok.f113 {s : Nat} (hs : s < 2 ^ of.length) : M.f113 ((n : Int), kn, of) (s : Int) = some (mat n (Stp (csS kn of s))) := by
  have := f113_eq (n := n) (kn := kn) (of := of) (s := s) hm.n2 hm.n8 hm.lk (fun i hi => by rw [hm.selE hs] at hi; exact sel_lt hi) (fun o ho => hm.okC o ho)
  rw [hm.selE hs] at this
  exact this
omit hm in
theorem stI_in {S : Nat → Nat → Int} {x y : Int} (h1 : 0 ≤ x) (h2 : x < (n : Int)) (h3 : 0 ≤ y) (h4 : y < (n : Int)) : (idx (mat n S) x >>= fun v => idx v y) = some (stI n S x y) := by
  unfold stI
  rw [if_pos ⟨h1, h2, h3, h4⟩]
  obtain ⟨a, rfl⟩ := Int.eq_ofNat_of_zero_le h1
  obtain ⟨b, rfl⟩ := Int.eq_ofNat_of_zero_le h3
  simp only [Option.bind_eq_bind, idx_mat (show a < n by omega), Option.bind_some, idx_row (show b < n by omega), Int.toNat_natCast]
theorem Ok.f64 {s a b : Nat} (hs : s < 2 ^ of.length) (ha : a < n) (hb : b < n) {w : Int} (hw : w ≤ 16777216) (hc : codeQ ((n : Int), kn, of) (cst (sel of.length s)) [(a : Int), (b : Int)] [w] = 0) (p : List Int) :
    M.f64 ((n : Int), kn, of) (cst (sel of.length s)) a b w p = some (cpR n (Stp (csS kn of s)) a b w p) := by
  have h6 := hm.lo
  have h7 := sel_len of.length s
  have hR := hm.st_range s
  unfold M.f64
  refine bnd (f76_eqQ _ _ _ _ (by rw [cst_length]; omega) (by simp) (by simp)) ?_
  rw [hc, if_neg (by simp), ends_test]
  by_cases he : ends a b p = true
  · rw [if_pos he]
    have hlen : 1 ≤ p.length ∧ p.length ≤ 64 ∧ pAt p 0 = (a : Int) := by
      unfold ends at he; simp at he; omega
    refine bnd (hm.set hs) (bnd (hm.f113 hs) ?_)
    generalize hS : Stp (csS kn of s) = S at *
    let q : Nat → Bool := fun j => decide (0 ≤ pAt p j) && decide (pAt p j < (n : Int))
    refine bnd (forM_st (N := p.length) (sumTo (stI n S) p) (fun j => if q j = true then none else some 32) rfl (by omega) fun j hj hq => ?_) ?_
    · simp only [pAt_idx hj, Option.bind_eq_bind, Option.bind_some]
      by_cases h1 : q j = true
      · have h1' : 0 ≤ pAt p j ∧ pAt p j < (n : Int) := by simpa [q] using h1
        rw [if_neg (by simp; omega), if_pos h1]
        by_cases h0 : j = 0
        · subst h0
          simp [sumTo]
        · rw [if_pos (by simp; omega), wr_id (by omega) (by omega), show ((j : Int) - 1) = ((j - 1 : Nat) : Int) from by omega, pAt_idx (by omega)]
          have h2 := hq (j - 1) (by omega)
          have h2' : 0 ≤ pAt p (j - 1) ∧ pAt p (j - 1) < (n : Int) := by
            by_cases e : q (j - 1) = true
            · simpa [q] using e
            · rw [if_neg e] at h2; cases h2
          have h3 := stI_in (S := S) h2'.1 h2'.2 h1'.1 h1'.2
          simp only [Option.bind_eq_bind] at h3
          simp only [Option.bind_some]
          have h4 := sumTo_range (n := n) hR p j
          have h5 := stI_range (n := n) hR (pAt p (j - 1)) (pAt p j)
          have e : sumTo (stI n S) p (j + 1) = sumTo (stI n S) p j + stI n S (pAt p (j - 1)) (pAt p j) := by
            show (if j = 0 then 0 else _) = _
            rw [if_neg h0]
          rw [e]
          cases hv : idx (mat n S) (pAt p (j - 1)) with
          | none => rw [hv] at h3; cases h3
          | some v =>
            rw [hv] at h3
            simp only [Option.bind_some] at h3
            simp only [Option.bind_some, h3]
            rw [wr_id (by omega) (by omega)]
      · have h1' : ¬ (0 ≤ pAt p j ∧ pAt p j < (n : Int)) := by simpa [q] using h1
        rw [if_pos (by simp; omega), if_neg h1]
    · rw [findAll]
      unfold cpR
      by_cases hall : (List.range p.length).all q = true
      · rw [if_pos hall]
        simp only [Out.elim]
        by_cases hsum : sumTo (stI n S) p p.length ≤ w
        · rw [if_neg (by simpa using hsum), if_pos ⟨he, fun i h1 h2 => by have := sumTo_mono (n := n) hR p h1 h2; omega, hsum⟩]
        · rw [if_pos (by simp; omega), if_neg (fun h => hsum h.2.2)]
      · rw [if_neg hall]
        simp only [Out.elim]
        rw [if_neg ?_]
        rintro ⟨_, hg, _⟩
        apply hall
        rw [List.all_eq_true]
        intro j hj
        have hj := List.mem_range.1 hj
        by_cases h0 : j = 0
        · subst h0; simp [q, hlen.2.2]; omega
        · have := hg j (by omega) hj
          unfold stI at this
          split at this
          · rename_i h; simp [q]; omega
          · omega
  · rw [if_neg he]
    unfold cpR
    rw [if_neg (fun h => he h.1)]
theorem Ok.f65 {s a b : Nat} (ha : a < n) (hb : b < n) {w : Int} (hc : codeQ ((n : Int), kn, of) (cst (sel of.length s)) [(a : Int), (b : Int)] [w] = 0) (p : List Int) :
    M.f65 1000 ((n : Int), kn, of) (cst (sel of.length s)) a b w p = some (cpR n (Stp (csS kn of s)) a b w p) := by
  have h6 := hm.lo; have hk := hm.lk
  have h7 := sel_len of.length s
  have hR := hm.st_range s
  unfold M.f65
  refine bnd (f72_eqQ _ _ _ _ (by rw [cst_length]; omega) (by simp)) ?_
  rw [hc, if_neg (by simp), ends_test]
  by_cases he : ends a b p = true
  · rw [if_pos he]
    have hlen : 1 ≤ p.length ∧ p.length ≤ 64 := by
      unfold ends at he; simp at he; omega
    refine bnd hm.cmps ?_
    have hcs : (csS kn of s).length ≤ 40 := by
      have := picks_len of (sel of.length s)
      unfold csS; rw [List.length_append]; omega
    let q : Nat → Bool := fun j => decide (stI n (Stp (csS kn of s)) (pAt p j) (pAt p (j + 1)) < 1099511627776)
    refine bnd (loopM_test (ρ := Int ⊕ Int) (N := p.length - 1) (fun j => (sumTo (stI n (Stp (csS kn of s))) p (j + 1), ((j + 1 : Nat) : Int))) q (.inr 32) (.inl (sumTo (stI n (Stp (csS kn of s))) p p.length)) rfl (by omega) (fun j hj _ => ?_) ?_) ?_
    · rw [if_pos (by simp; omega)]
      rw [show wr (((j + 1 : Nat) : Int) - 1) = (j : Int) from by rw [wr_id (by omega) (by omega)]; omega]
      rw [pAt_idx (show j < p.length by omega), pAt_idx (show j + 1 < p.length by omega)]
      simp only [Option.bind_eq_bind, Option.bind_some]
      have e114 := f114_eq (hm.okS s) hcs (pAt p j) (pAt p (j + 1))
      unfold csS at e114
      rw [e114]
      simp only [Option.bind_some]
      have h4 := sumTo_range (n := n) hR p (j + 1)
      have h5 := stI_range (n := n) hR (pAt p j) (pAt p (j + 1))
      have e : sumTo (stI n (Stp (csS kn of s))) p (j + 1 + 1) = sumTo (stI n (Stp (csS kn of s))) p (j + 1) + stI n (Stp (csS kn of s)) (pAt p j) (pAt p (j + 1)) := by
        show (if j + 1 = 0 then 0 else _) = _
        rw [if_neg (by omega)]; rfl
      have hq : q j = decide (stI n (Stp (csS kn of s)) (pAt p j) (pAt p (j + 1)) < 1099511627776) := rfl
      rw [hq]
      unfold csS at *
      by_cases h : stI n (Stp (kn ++ picks of (sel of.length s))) (pAt p j) (pAt p (j + 1)) < 1099511627776
      · rw [if_neg (by simpa using h), if_pos (by simpa using h), e, wr_id (by omega) (by omega), wr_id (by omega) (by omega)]
        rfl
      · rw [if_pos (by simpa using h), if_neg (by simpa using h)]
    · rw [if_neg (by simp; omega), show p.length - 1 + 1 = p.length from by omega]
    · unfold cpR
      by_cases hall : (List.range (p.length - 1)).all q = true
      · rw [if_pos hall]
        have hg : goodTo (stI n (Stp (csS kn of s))) p p.length := fun i h1 h2 => by
          have := List.all_eq_true.1 hall (i - 1) (List.mem_range.2 (by omega))
          have := of_decide_eq_true this
          rwa [show i - 1 + 1 = i from by omega] at this
        simp only [sumE]
        by_cases hsum : sumTo (stI n (Stp (csS kn of s))) p p.length ≤ w
        · rw [if_neg (by simpa using hsum), if_pos ⟨he, hg, hsum⟩]
        · rw [if_pos (by simp; omega), if_neg (fun h => hsum h.2.2)]
      · rw [if_neg hall]
        simp only [sumE]
        rw [if_neg ?_]
        rintro ⟨_, hg, _⟩
        apply hall
        rw [List.all_eq_true]
        intro j hj
        have hj := List.mem_range.1 hj
        have := hg (j + 1) (by omega) (by omega)
        simpa [q] using this
  · rw [if_neg he]
    unfold cpR
    rw [if_neg (fun h => he h.1)]
/-- What is accepted is a way. -/
theorem Ok.accepted {s a b : Nat} (ha : a < n) {w : Int} {p : List Int} (h : cpR n (Stp (csS kn of s)) a b w p = 0) : WdS n kn of s a b ≤ w := by
  unfold cpR at h
  split at h
  · rename_i q
    obtain ⟨he, hg, hs⟩ := q
    have hlen : 1 ≤ p.length ∧ pAt p 0 = (a : Int) ∧ pAt p (p.length - 1) = (b : Int) := by
      unfold ends at he; simp at he; omega
    have key : ∀ j, j < p.length → ∃ c : Nat, pAt p j = (c : Int) ∧ Walk n (Stp (csS kn of s)) a c j (sumTo (stI n (Stp (csS kn of s))) p (j + 1)) := by
      intro j
      induction j with
      | zero => exact fun _ => ⟨a, hlen.2.1, .nil ha⟩
      | succ j ih =>
        intro hj
        obtain ⟨c, hc, hw⟩ := ih (by omega)
        have h1 := hg (j + 1) (by omega) hj
        have e : sumTo (stI n (Stp (csS kn of s))) p (j + 1 + 1) = sumTo (stI n (Stp (csS kn of s))) p (j + 1) + stI n (Stp (csS kn of s)) (pAt p j) (pAt p (j + 1)) := by
          show (if j + 1 = 0 then 0 else _) = _
          rw [if_neg (by omega)]; rfl
        rw [e]
        simp only [Nat.add_sub_cancel] at h1
        unfold stI at h1
        split at h1
        · rename_i q
          obtain ⟨d, hd⟩ := Int.eq_ofNat_of_zero_le q.2.2.1
          refine ⟨d, hd, ?_⟩
          have e2 : stI n (Stp (csS kn of s)) (pAt p j) (pAt p (j + 1)) = Stp (csS kn of s) c d := by
            unfold stI
            rw [if_pos q, hc, hd]; simp
          rw [e2]
          refine .step hw (by omega) ?_
          rw [hc, hd] at h1
          simpa [Wh.far] using h1
        · omega
    obtain ⟨c, hc, hw⟩ := key (p.length - 1) (by omega)
    have : c = b := by omega
    subst this
    rw [show p.length - 1 + 1 = p.length from by omega] at hw
    have := (hm.cl s).walk hw
    omega
  · cases h
end
end Go.Proofs.Ytkbilbeaedocjaa
