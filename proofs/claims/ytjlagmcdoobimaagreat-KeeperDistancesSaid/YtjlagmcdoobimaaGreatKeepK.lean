/-
  What is proved: what widths and costs have to do with each other on valid markets: more offers, what is connected, the least lists, prices.
-/
import Derived.Test.YtjlagmcdoobimaaGreatKeepJ
namespace Go.Proofs.YtjlagmcdoobimaaGreat
open Go Go.Proofs.YtjlagmcdoobimaaGreat.Wh
set_option maxRecDepth 100000

theorem f30_any {l : List Int} {P : Int → Option Bool} (p : Int → Bool) (hl : l.length ≤ 4096) (h : ∀ x ∈ l, P x = some (p x)) : M.f30 l P = some (l.any p) := by
  unfold M.f30 M.f59
  refine bnd (y := idxF p l) (bnd (forM_idx l p (by omega) fun j x hx => ?_) ?_) ?_
  · rw [idx_nat, hx]
    simp only [Option.bind_eq_bind, Option.bind_some, h x (List.mem_of_getElem? hx)]
    cases p x <;> rfl
  · unfold idxF
    cases l.findIdx? p <;> rfl
  · rw [idxF_any]
def fewB (m : S_api_Market) : Bool := (((decide ((m.2.2.length : Int) ≤ 6)) || ((decide (12 < (m.2.2.length : Int))) && (decide ((m.2.2.length : Int) ≤ 20)))) && (decide ((m.2.1.length : Int) ≤ 30)))
theorem fewB_or {m : S_api_Market} (h : fewB m = true) : m.2.2.length ≤ 6 ∨ 12 < m.2.2.length := by unfold fewB at h; simp at h; omega
theorem f26_eq (m : S_api_Market) : M.f26 m = some (fewB m) := rfl
def askB (m : S_api_Market) (l cl : List Int) : Bool := fewB m && decide (l.length ≤ 100) && validB m && boughtB m.2.2.length l && cl.all (clockB m.1)
theorem f5_eq (m : S_api_Market) (l cl : List Int) (hcl : cl.length ≤ 4096) : M.f5 1000 m l cl = some (askB m l cl) := by
  unfold M.f5 askB
  refine bnd (f26_eq m) ?_
  cases h1 : fewB m with
  | false => rfl
  | true =>
    have hm : m.2.2.length ≤ 20 := by unfold fewB at h1; simp at h1; omega
    refine bnd (y := decide (l.length ≤ 100)) (by rw [short_eq _ (by simp)]; simp [guardO]) ?_
    cases h2 : decide (l.length ≤ 100) with
    | false => rfl
    | true =>
      have hl : l.length ≤ 100 := by simpa using h2
      simp only [Bool.not_true, Bool.or_self, Bool.not_false, guardO, Bool.true_and, Bool.false_or]
      refine bnd (f25_eq m) ?_
      cases h3 : validB m with
      | false => simp
      | true =>
        simp only [if_true, bne_self_eq_false, Bool.not_false, Bool.false_or, Bool.true_and]
        refine bnd (f28_eq m) ?_
        rw [h3]
        simp only [if_true, bne_self_eq_false, Bool.not_false, Bool.false_or]
        refine bnd (f29_eq m l hm (by omega)) ?_
        cases h4 : boughtB m.2.2.length l with
        | false => rfl
        | true =>
          simp only [Bool.not_true, Bool.false_eq_true, if_false, Bool.true_and]
          refine bnd (f30_any (fun x => !clockB m.1 x) hcl fun x _ => ?_) ?_
          · unfold M.f31 clockB
            congr 1
            apply Bool.eq_iff_iff.2
            simp
          · rw [List.all_eq_not_any_not]
/-- What is asked of a valid market of few offers. -/
theorem ask_cases {m : S_api_Market} {l cl : List Int} (h : askB m l cl = true) : ∃ (n : Nat) (kn of : List S_api_Offer) (s : Nat), m = ((n : Int), kn, of) ∧ Ok n kn of ∧ validB m = true ∧ s < 2 ^ of.length ∧ l = cst (sel of.length s) ∧ cl.all (clockB (n : Int)) = true := by
  unfold askB at h
  simp only [Bool.and_eq_true] at h
  obtain ⟨⟨⟨⟨h1, _⟩, h3⟩, h4⟩, h5⟩ := h
  obtain ⟨n, kn, of, rfl, hm⟩ := few_cases (fewB_or h1) h3
  obtain ⟨s, hs, hl⟩ := bought_set h4
  exact ⟨n, kn, of, s, rfl, hm, h3, hs, hl, h5⟩
/-! ### what comparisons there are -/
def csS (kn of : List S_api_Offer) (s : Nat) : List S_api_Offer := kn ++ picks of (sel of.length s)
theorem mem_csS {kn of : List S_api_Offer} {s : Nat} {o : S_api_Offer} : o ∈ csS kn of s ↔ o ∈ kn ∨ ∃ i, of[i]? = some o ∧ s.testBit i = true := by
  unfold csS
  rw [List.mem_append, mem_picks]
  constructor
  · rintro (h | ⟨i, hi, ho⟩)
    · exact .inl h
    · exact .inr ⟨i, ho, (mem_sel.1 hi).2⟩
  · rintro (h | ⟨i, ho, hi⟩)
    · exact .inl h
    · exact .inr ⟨i, mem_sel.2 ⟨(List.getElem?_eq_some_iff.1 ho).1, hi⟩, ho⟩
/-- All that is in the one is in the other. -/
def Sub (s t : Nat) : Prop := ∀ i, s.testBit i = true → t.testBit i = true
section
variable {n : Nat} {kn of : List S_api_Offer} (hm : Ok n kn of)
include hm
theorem Ok.okS (s : Nat) : ∀ o ∈ csS kn of s, okB (n : Int) 10000 o = true := by
  intro o ho
  rcases mem_csS.1 ho with h | ⟨i, hi, _⟩
  · exact okB_mono (hm.k o h) (by omega)
  · exact hm.o o (List.mem_of_getElem? hi)
theorem Ok.cl (s : Nat) : Cl n (Stp (csS kn of s)) (WdS n kn of s) := wd_cl0 10000 (hm.okS s)
theorem Ok.st (s : Nat) : Steps (csS kn of s) (Stp (csS kn of s)) := st_steps (hm.okS s)
theorem Ok.sym (s : Nat) {a b : Nat} (ha : a < n) (hb : b < n) : WdS n kn of s a b = WdS n kn of s b a := (hm.cl s).sym (fun a b _ _ => (hm.st s).sym a b) ha hb
/-- What is compared at all is known within so much. -/
theorem Ok.bound (s : Nat) {a b : Nat} (ha : a < n) (hb : b < n) (h : WdS n kn of s a b < 1099511627776) : WdS n kn of s a b ≤ 7340032 := by
  have h8 := hm.n8
  have := (hm.cl s).bound (M := 1048576) (by omega) (fun a b _ _ hlt => by
    obtain ⟨o, ho, _, e⟩ := (hm.st s).at_ a b hlt
    rw [e]
    have := hm.okS s o ho
    unfold okB at this; simp at this; omega) ha hb h
  have h2 : ((n - 1 : Nat) : Int) * 1048576 ≤ 7 * 1048576 := Int.mul_le_mul_of_nonneg_right (by omega) (by omega)
  omega
theorem Ok.range (s : Nat) {a b : Nat} (ha : a < n) (hb : b < n) : 0 ≤ WdS n kn of s a b ∧ (WdS n kn of s a b ≤ 7340032 ∨ WdS n kn of s a b = 1099511627776) := by
  have h1 := (hm.cl s).nonneg a b ha hb
  have h2 := (hm.cl s).far a b ha hb
  have h3 := hm.bound s ha hb
  unfold Wh.far at h2
  omega
/-- With more offers nothing is wider. -/
theorem Ok.mono {s t : Nat} (h : Sub s t) {a b : Nat} (ha : a < n) (hb : b < n) : WdS n kn of t a b ≤ WdS n kn of s a b := by
  refine (hm.cl s).mono (hm.cl t) (fun a b _ _ => ?_) ha hb
  by_cases q : Stp (csS kn of s) a b < Wh.far
  · obtain ⟨o, ho, hl, e⟩ := (hm.st s).at_ a b q
    rw [e]
    refine (hm.st t).le o ?_ a b hl
    rcases mem_csS.1 ho with ho | ⟨i, hi, hb⟩
    · exact mem_csS.2 (.inl ho)
    · exact mem_csS.2 (.inr ⟨i, hi, h i hb⟩)
  · have := (hm.st t).far a b
    omega
/-! ### the least list -/
/-! ### the least of some numbers -/
end
end Go.Proofs.YtjlagmcdoobimaaGreat
