/-
  What is proved: what widths and costs have to do with each other on valid markets: more offers, what is connected, the least lists, prices.
-/
import Derived.Test.YtkbilbeaedocjaaKeepJ
namespace Go.Proofs.Ytkbilbeaedocjaa
open Go Go.Proofs.Ytkbilbeaedocjaa.Wh
set_option maxRecDepth 100000

theorem f89_any {l : List Int} {P : Int → Option Bool} (p : Int → Bool) (hl : l.length ≤ 4096) (h : ∀ x ∈ l, P x = some (p x)) : M.f89 l P = some (l.any p) := by
  unfold M.f89 M.f121
  refine bnd (y := idxF p l) (bnd (forM_idx l p (by omega) fun j x hx => ?_) ?_) ?_
  · rw [idx_nat, hx]
    simp only [Option.bind_eq_bind, Option.bind_some, h x (List.mem_of_getElem? hx)]
    cases p x <;> rfl
  · unfold idxF
    cases l.findIdx? p <;> rfl
  · rw [idxF_any]
def fewB (m : S_api_Market) : Bool := (((decide ((m.2.2.length : Int) ≤ 6)) || ((decide (12 < (m.2.2.length : Int))) && (decide ((m.2.2.length : Int) ≤ 20)))) && (decide ((m.2.1.length : Int) ≤ 30)))
theorem fewB_or {m : S_api_Market} (h : fewB m = true) : m.2.2.length ≤ 6 ∨ 12 < m.2.2.length := by unfold fewB at h; simp at h; omega
theorem f17_eq (m : S_api_Market) : M.f17 m = some (fewB m) := rfl
def askB (m : S_api_Market) (l cl : List Int) : Bool := fewB m && decide (l.length ≤ 100) && validB m && boughtB m.2.2.length l && cl.all (clockB m.1)
theorem f31_eq (m : S_api_Market) (l cl : List Int) (hcl : cl.length ≤ 4096) : M.f31 1000 m l cl = some (askB m l cl) := by
  unfold M.f31 askB
  refine bnd (f17_eq m) ?_
  cases h1 : fewB m with
  | false => rfl
  | true =>
    have hm : m.2.2.length ≤ 20 := by unfold fewB at h1; simp at h1; omega
    refine bnd (y := decide (l.length ≤ 100)) (by rw [short_eq _ (by simp)]; simp [guardO]) ?_
    cases h2 : decide (l.length ≤ 100) with
    | false => rfl
    | true =>
      have hl : l.length ≤ 100 := by simpa using h2
      simp only [Bool.not_true, Bool.or_self, Bool.not_false, guardO, Bool.true_and, Bool.false_or]
      refine bnd (f41_eq m) ?_
      cases h3 : validB m with
      | false => simp [guardO]
      | true =>
        simp only [if_true, bne_self_eq_false, Bool.not_false, Bool.false_or, guardO, Bool.true_and]
        refine bnd (f42_eq m) ?_
        rw [h3]
        simp only [if_true, bne_self_eq_false, Bool.not_false, Bool.false_or, guardO, Bool.true_and]
        refine bnd (f88_eq m l hm (by omega)) ?_
        cases h4 : boughtB m.2.2.length l with
        | false => rfl
        | true =>
          simp only [Bool.not_true, Bool.false_eq_true, if_false, Bool.true_and]
          refine bnd (f89_any (fun x => !clockB m.1 x) hcl fun x _ => ?_) ?_
          · unfold M.f90 clockB
            congr 1
            apply Bool.eq_iff_iff.2
            simp
          · rw [List.all_eq_not_any_not]
/-- What is asked of a valid market of few offers. -/
theorem ask_cases {m : S_api_Market} {l cl : List Int} (h : askB m l cl = true) : ∃ (n : Nat) (kn of : List S_api_Offer) (s : Nat), m = ((n : Int), kn, of) ∧ Ok n kn of ∧ validB m = true ∧ s < 2 ^ of.length ∧ l = cst (sel of.length s) ∧ cl.all (clockB (n : Int)) = true := by
  unfold askB at h
  simp only [Bool.and_eq_true] at h
  obtain ⟨⟨⟨⟨h1, _⟩, h3⟩, h4⟩, h5⟩ := h
  obtain ⟨n, kn, of, rfl, hm⟩ := few_cases (fewB_or h1) h3
  obtain ⟨s, hs, hl⟩ := bought_set h4
  exact ⟨n, kn, of, s, rfl, hm, h3, hs, hl, h5⟩
/-! ### what comparisons there are -/
def csS (kn of : List S_api_Offer) (s : Nat) : List S_api_Offer := kn ++ picks of (sel of.length s)
theorem mem_csS {kn of : List S_api_Offer} {s : Nat} {o : S_api_Offer} : o ∈ csS kn of s ↔ o ∈ kn ∨ ∃ i, of[i]? = some o ∧ s.testBit i = true := by
  unfold csS
  rw [List.mem_append, mem_picks]
  constructor
  · rintro (h | ⟨i, hi, ho⟩)
    · exact .inl h
    · exact .inr ⟨i, ho, (mem_sel.1 hi).2⟩
  · rintro (h | ⟨i, ho, hi⟩)
    · exact .inl h
    · exact .inr ⟨i, mem_sel.2 ⟨(List.getElem?_eq_some_iff.1 ho).1, hi⟩, ho⟩
/-- All that is in the one is in the other. -/
def Sub (s t : Nat) : Prop := ∀ i, s.testBit i = true → t.testBit i = true
theorem picks_sel_bits (of : List S_api_Offer) (s : Nat) : ∀ k, k ≤ of.length → picks of (sel k s) = (List.range k).filterMap fun i => if s.testBit i = true then of[i]? else none := by
  intro k hk
  unfold picks sel
  rw [List.filterMap_filter]
section
variable {n : Nat} {kn of : List S_api_Offer} (hm : Ok n kn of)
include hm
theorem Ok.okS (s : Nat) : ∀ o ∈ csS kn of s, okB (n : Int) 10000 o = true := by
  intro o ho
  rcases mem_csS.1 ho with h | ⟨i, hi, _⟩
  · exact okB_mono (hm.k o h) (by omega)
  · exact hm.o o (List.mem_of_getElem? hi)
theorem Ok.cl (s : Nat) : Cl n (Stp (csS kn of s)) (WdS n kn of s) := wd_cl0 10000 (hm.okS s)
theorem Ok.st (s : Nat) : Steps (csS kn of s) (Stp (csS kn of s)) := st_steps (hm.okS s)
theorem Ok.sym (s : Nat) {a b : Nat} (ha : a < n) (hb : b < n) : WdS n kn of s a b = WdS n kn of s b a := (hm.cl s).sym (fun a b _ _ => (hm.st s).sym a b) ha hb
/-- What is compared at all is known within so much. -/
theorem Ok.bound (s : Nat) {a b : Nat} (ha : a < n) (hb : b < n) (h : WdS n kn of s a b < 1099511627776) : WdS n kn of s a b ≤ 7340032 := by
  have h8 := hm.n8
  have := (hm.cl s).bound (M := 1048576) (by omega) (fun a b _ _ hlt => by
    obtain ⟨o, ho, _, e⟩ := (hm.st s).at_ a b hlt
    rw [e]
    have := hm.okS s o ho
    unfold okB at this; simp at this; omega) ha hb h
  have h2 : ((n - 1 : Nat) : Int) * 1048576 ≤ 7 * 1048576 := Int.mul_le_mul_of_nonneg_right (by omega) (by omega)
  omega
theorem Ok.range (s : Nat) {a b : Nat} (ha : a < n) (hb : b < n) : 0 ≤ WdS n kn of s a b ∧ (WdS n kn of s a b ≤ 7340032 ∨ WdS n kn of s a b = 1099511627776) := by
  have h1 := (hm.cl s).nonneg a b ha hb
  have h2 := (hm.cl s).far a b ha hb
  have h3 := hm.bound s ha hb
  unfold Wh.far at h2
  omega
/-- With more offers nothing is wider. -/
theorem Ok.mono {s t : Nat} (h : Sub s t) {a b : Nat} (ha : a < n) (hb : b < n) : WdS n kn of t a b ≤ WdS n kn of s a b := by
  refine (hm.cl s).mono (hm.cl t) (fun a b _ _ => ?_) ha hb
  by_cases q : Stp (csS kn of s) a b < Wh.far
  · obtain ⟨o, ho, hl, e⟩ := (hm.st s).at_ a b q
    rw [e]
    refine (hm.st t).le o ?_ a b hl
    rcases mem_csS.1 ho with ho | ⟨i, hi, hb⟩
    · exact mem_csS.2 (.inl ho)
    · exact mem_csS.2 (.inr ⟨i, hi, h i hb⟩)
  · have := (hm.st t).far a b
    omega
theorem Ok.costs {s : Nat} : 0 ≤ cS of s ∧ cS of s ≤ 60000 := by
  have h1 := sel_len of.length s
  have h2 := picks_len of (sel of.length s)
  have h3 := hm.lo
  have := cost_fold (picks of (sel of.length s)) 0 0 (fun o ho => by
    unfold picks at ho
    obtain ⟨i, _, hi⟩ := List.mem_filterMap.1 ho
    have := hm.o o (List.mem_of_getElem? hi)
    unfold okB at this
    simp at this
    omega) (by omega) (by omega) (by omega)
  unfold cS costF
  omega
/-- Costs without overflow. -/
theorem Ok.sum {s : Nat} : cS of s = (((List.range of.length).filterMap fun i => if s.testBit i = true then of[i]? else none).map fun o => o.2.2.1).sum := by
  have h3 := hm.lo
  unfold cS costF
  rw [picks_sel_bits of s _ (Nat.le_refl _)]
  have hok : ∀ o ∈ ((List.range of.length).filterMap fun i => if s.testBit i = true then of[i]? else none), 0 ≤ o.2.2.1 ∧ o.2.2.1 ≤ 10000 := by
    intro o ho
    obtain ⟨i, _, hi⟩ := List.mem_filterMap.1 ho
    split at hi
    · have := hm.o o (List.mem_of_getElem? hi)
      unfold okB at this; simp at this; omega
    · cases hi
  have hl : ((List.range of.length).filterMap fun i => if s.testBit i = true then of[i]? else none).length ≤ 6 := by
    have := List.length_filterMap_le (fun i => if s.testBit i = true then of[i]? else none) (List.range of.length)
    rw [List.length_range] at this
    omega
  generalize ((List.range of.length).filterMap fun i => if s.testBit i = true then of[i]? else none) = xs at hok hl
  have key : ∀ (xs : List S_api_Offer) (c : Int), (∀ o ∈ xs, 0 ≤ o.2.2.1 ∧ o.2.2.1 ≤ 10000) → 0 ≤ c → c + 10000 * (xs.length : Int) ≤ 1000000 → xs.foldl (fun c o => wr (c + o.2.2.1)) c = c + (xs.map fun o => o.2.2.1).sum := by
    intro xs
    induction xs with
    | nil => intro c _ _ _; simp
    | cons o xs ih =>
      intro c h h0 h1
      have ho := h o (by simp)
      rw [List.length_cons] at h1
      rw [List.foldl_cons, wr_id (by omega) (by omega), ih _ (fun p hp => h p (by simp [hp])) (by omega) (by omega), List.map_cons, List.sum_cons]
      omega
  rw [key xs 0 hok (by omega) (by omega)]
  omega
omit hm in
/-- Less is bought for no more. -/
theorem sum_le (c : Nat → Int) (p q : Nat → Bool) : ∀ k, (∀ i, i < k → 0 ≤ c i) → (∀ i, i < k → p i = true → q i = true) → (((List.range k).filter p).map c).sum ≤ (((List.range k).filter q).map c).sum
  | 0, _, _ => by simp
  | k + 1, h0, h => by
    have ih := sum_le c p q k (fun i hi => h0 i (by omega)) (fun i hi => h i (by omega))
    have hc := h0 k (by omega)
    have hk := h k (by omega)
    rw [List.range_succ, List.filter_append, List.filter_append, List.map_append, List.map_append, List.sum_append, List.sum_append]
    have e : ∀ r : Nat → Bool, (([k].filter r).map c).sum = if r k = true then c k else 0 := by
      intro r; cases h : r k <;> simp [h]
    rw [e, e]
    split
    · rename_i hp; rw [if_pos (hk hp)]; omega
    · split <;> omega
def costAt (of : List S_api_Offer) (i : Nat) : Int := (of[i]?.map fun o => o.2.2.1).getD 0
theorem Ok.cost_at {i : Nat} : 0 ≤ costAt of i := by
  unfold costAt
  cases h : of[i]? with
  | none => simp
  | some o =>
    have := hm.o o (List.mem_of_getElem? h)
    unfold okB at this; simp at this
    simp; omega
theorem Ok.sum' {s : Nat} : cS of s = (((List.range of.length).filter fun i => s.testBit i).map (costAt of)).sum := by
  rw [hm.sum]
  congr 1
  have key : ∀ l : List Nat, (∀ i ∈ l, i < of.length) → ((l.filterMap fun i => if s.testBit i = true then of[i]? else none).map fun o => o.2.2.1) = (l.filter fun i => s.testBit i).map (costAt of) := by
    intro l
    induction l with
    | nil => intro _; rfl
    | cons i l ih =>
      intro h
      have hi := List.getElem?_eq_getElem (h i (by simp))
      have ih := ih fun j hj => h j (by simp [hj])
      rw [List.filterMap_cons, List.filter_cons]
      cases hb : s.testBit i with
      | false => simpa using ih
      | true =>
        simp only [if_true, hi, List.map_cons, ih]
        congr 1
        simp [costAt, hi]
  exact key _ (by simp)
theorem Ok.cost_sub {s t : Nat} (h : Sub s t) : cS of s ≤ cS of t := by
  rw [hm.sum', hm.sum']
  exact sum_le _ _ _ _ (fun i _ => hm.cost_at) (fun i _ hi => h i hi)
/-! ### the least list -/
omit hm in
theorem best_none {q : Nat → Bool} (h : lst (bfS of) q (2 ^ of.length) = none) : ∀ s, s < 2 ^ of.length → q s = false := lst_none.1 h
omit hm in
theorem best_some {q : Nat → Bool} {t : Nat} (h : lst (bfS of) q (2 ^ of.length) = some t) : t < 2 ^ of.length ∧ q t = true ∧ ∀ s, s < 2 ^ of.length → q s = true → bfS of s t = false := lst_some (bfS_trans of) (bfS_irrefl of) h
omit hm in
theorem bfS_cost {s t : Nat} (h : bfS of s t = false) : cS of t ≤ cS of s := by
  unfold bfS at h
  rw [← Bool.not_eq_true, befL_iff] at h
  omega
theorem Ok.f37s {s : Nat} (hv : validB ((n : Int), kn, of) = true) (hs : s < 2 ^ of.length) : M.f37 ((n : Int), kn, of) (cst (sel of.length s)) = some (cS of s, 0) :=
  hm.f37 hs (codeQ_zero hv (set_bought _ _) rfl rfl)
theorem Ok.f33s {s a b : Nat} (hv : validB ((n : Int), kn, of) = true) (hs : s < 2 ^ of.length) (ha : a < n) (hb : b < n) : M.f33 ((n : Int), kn, of) (cst (sel of.length s)) a b = some (widthR (WdS n kn of s a b)) :=
  hm.f33 hs ha hb (codeQ_zero hv (set_bought _ _) (by simp [clockB]; omega) rfl)
theorem Ok.f25s {a b : Nat} {w : Int} (hv : validB ((n : Int), kn, of) = true) (ha : a < n) (hb : b < n) (h0 : 0 ≤ w) (h1 : w ≤ 16777216) : M.f25 ((n : Int), kn, of) a b w = some (bestR of (qW n kn of a b w)) :=
  hm.f25 ha hb (codeQ_zero hv rfl (by simp [clockB]; omega) (by simp [sizeB]; omega))
theorem Ok.f27s {w : Int} (hv : validB ((n : Int), kn, of) = true) (h0 : 0 ≤ w) (h1 : w ≤ 16777216) : M.f27 ((n : Int), kn, of) w = some (bestR of (togB n kn of w)) :=
  hm.f27 (codeQ_zero hv rfl rfl (by simp [sizeB]; omega))
theorem Ok.f34s {a : Nat} (hv : validB ((n : Int), kn, of) = true) (ha : a < n) : M.f34 ((n : Int), kn, of) a = some (tab n (frontS n kn of a), 0) :=
  hm.f34 ha (codeQ_zero hv rfl (by simp [clockB]; omega) rfl)
omit hm in
theorem code_zero {a b : Nat} {w : Int} (hv : validB ((n : Int), kn, of) = true) (ha : a < n) (hb : b < n) (h0 : 0 ≤ w) (h1 : w ≤ 16777216) : code ((n : Int), kn, of) a b w = 0 := by
  unfold code
  rw [if_pos hv, if_pos ⟨by omega, by show (a : Int) < (n : Int); omega, by omega, by show (b : Int) < (n : Int); omega, h0, h1⟩]
omit hm in
theorem togB_iff {w : Int} {s : Nat} : togB n kn of w s = true ↔ ∀ a b, a < n → b < n → WdS n kn of s a b ≤ w := by
  unfold togB
  simp only [List.all_eq_true, List.mem_range, decide_eq_true_eq]
  exact ⟨fun h a b ha hb => h a ha b hb, fun h a ha b hb => h a b ha hb⟩
/-! ### the least of some numbers -/
omit hm in
theorem mc_le {q : Nat → Bool} : ∀ {N s : Nat}, s < N → q s = true → mc of q N ≤ cS of s
  | 0, s, h, _ => by omega
  | N + 1, s, h, hq => by
    rw [mc_succ]
    by_cases e : s = N
    · subst e
      rw [if_pos hq]
      unfold imin cS; split <;> omega
    · have := mc_le (q := q) (N := N) (by omega) hq
      split
      · unfold imin; split <;> omega
      · exact this
omit hm in
theorem mc_at {q : Nat → Bool} : ∀ {N : Nat}, mc of q N < 1099511627776 → ∃ s, s < N ∧ q s = true ∧ mc of q N = cS of s
  | 0, h => by simp [mc, itr] at h
  | N + 1, h => by
    rw [mc_succ] at h ⊢
    split at h
    · rename_i hq
      rw [if_pos hq]
      unfold imin at h ⊢
      split at h
      · rename_i hc
        rw [if_pos hc]
        exact ⟨N, by omega, hq, rfl⟩
      · rename_i hc
        rw [if_neg hc]
        obtain ⟨s, h1, h2, h3⟩ := mc_at h
        exact ⟨s, by omega, h2, h3⟩
    · rename_i hq
      rw [if_neg hq]
      obtain ⟨s, h1, h2, h3⟩ := mc_at h
      exact ⟨s, by omega, h2, h3⟩
def lwS (n : Nat) (kn of : List S_api_Offer) (a b : Nat) (c : Int) (N : Nat) : Int := itr (leastG n kn of a b c) N 1099511627776
omit hm in
theorem lw_succ {a b : Nat} {c : Int} (N : Nat) : lwS n kn of a b c (N + 1) = if cS of N ≤ c then imin (lwS n kn of a b c N) (WdS n kn of N a b) else lwS n kn of a b c N := rfl
omit hm in
theorem lw_le {a b : Nat} {c : Int} : ∀ {N s : Nat}, s < N → cS of s ≤ c → lwS n kn of a b c N ≤ WdS n kn of s a b
  | 0, s, h, _ => by omega
  | N + 1, s, h, hq => by
    rw [lw_succ]
    by_cases e : s = N
    · subst e
      rw [if_pos hq]
      unfold imin; split <;> omega
    · have := lw_le (a := a) (b := b) (N := N) (s := s) (by omega) hq
      split
      · unfold imin; split <;> omega
      · exact this
omit hm in
theorem lw_at {a b : Nat} {c : Int} : ∀ {N : Nat}, lwS n kn of a b c N < 1099511627776 → ∃ s, s < N ∧ cS of s ≤ c ∧ lwS n kn of a b c N = WdS n kn of s a b
  | 0, h => by simp [lwS, itr] at h
  | N + 1, h => by
    rw [lw_succ] at h ⊢
    split at h
    · rename_i hq
      rw [if_pos hq]
      unfold imin at h ⊢
      split at h
      · rename_i hc
        rw [if_pos hc]
        exact ⟨N, by omega, hq, rfl⟩
      · rename_i hc
        rw [if_neg hc]
        obtain ⟨s, h1, h2, h3⟩ := lw_at h
        exact ⟨s, by omega, h2, h3⟩
    · rename_i hq
      rw [if_neg hq]
      obtain ⟨s, h1, h2, h3⟩ := lw_at h
      exact ⟨s, by omega, h2, h3⟩
end
end Go.Proofs.Ytkbilbeaedocjaa
