/-
  What is proved: pairs of fronts come from pairs of other fronts by a comparison, and lead to pairs of them.
-/
import Derived.Test.YtkbilbeaedocjaaKeepM
namespace Go.Proofs.Ytkbilbeaedocjaa
open Go Go.Proofs.Ytkbilbeaedocjaa.Wh
set_option maxRecDepth 100000

/-! ### one offer more, one less -/
def addS (s i : Nat) : Nat := s ||| 2 ^ i
theorem addS_bits {s i j : Nat} : (addS s i).testBit j = (s.testBit j || decide (i = j)) := by unfold addS; rw [Nat.testBit_or, Nat.testBit_two_pow]
theorem addS_lt {s i k : Nat} (hs : s < 2 ^ k) (hi : i < k) : addS s i < 2 ^ k := Nat.or_lt_two_pow hs (Nat.pow_lt_pow_right (by decide) hi)
def delS (k s i : Nat) : Nat := bset ((sel k s).filter fun j => decide (j ≠ i))
theorem bit_lt {k s j : Nat} (hs : s < 2 ^ k) (h : s.testBit j = true) : j < k := by
  rcases Nat.lt_or_ge j k with q | q
  · exact q
  · rw [Nat.testBit_lt_two_pow (Nat.lt_of_lt_of_le hs (Nat.pow_le_pow_right (by decide) q))] at h; cases h
theorem delS_bits {k s i j : Nat} (hs : s < 2 ^ k) : (delS k s i).testBit j = (s.testBit j && decide (j ≠ i)) := by
  unfold delS
  rw [bset_bit]
  apply Bool.eq_iff_iff.2
  rw [decide_eq_true_eq, List.mem_filter, mem_sel, Bool.and_eq_true]
  constructor
  · rintro ⟨⟨_, h1⟩, h2⟩; exact ⟨h1, h2⟩
  · rintro ⟨h1, h2⟩; exact ⟨⟨bit_lt hs h1, h1⟩, h2⟩
theorem delS_lt {k s i : Nat} : delS k s i < 2 ^ k := bset_lt fun j hj => (mem_sel.1 (List.mem_filter.1 hj).1).1
/-- What one further number adds to a sum. -/
theorem sum_one (c : Nat → Int) (p q : Nat → Bool) (i : Nat) : ∀ k, i < k → p i = false → q i = true → (∀ j, j < k → j ≠ i → q j = p j) → (((List.range k).filter q).map c).sum = (((List.range k).filter p).map c).sum + c i
  | 0, h, _, _, _ => by omega
  | k + 1, h, hp, hq, he => by
    have e : ∀ r : Nat → Bool, (([k].filter r).map c).sum = if r k = true then c k else 0 := by
      intro r; cases h : r k <;> simp [h]
    rw [List.range_succ, List.filter_append, List.filter_append, List.map_append, List.map_append, List.sum_append, List.sum_append, e, e]
    by_cases q0 : i = k
    · subst q0
      have : ∀ m, m ≤ i → (((List.range m).filter q).map c).sum = (((List.range m).filter p).map c).sum := by
        intro m
        induction m with
        | zero => intro _; rfl
        | succ m ih =>
          intro hm
          have e' : ∀ r : Nat → Bool, (([m].filter r).map c).sum = if r m = true then c m else 0 := by
            intro r; cases h : r m <;> simp [h]
          rw [List.range_succ, List.filter_append, List.filter_append, List.map_append, List.map_append, List.sum_append, List.sum_append, e', e', ih (by omega), he m (by omega) (by omega)]
      rw [this i (Nat.le_refl _), hp, hq]
      simp
    · rw [sum_one c p q i k (by omega) hp hq (fun j hj hji => he j (by omega) hji), he k (by omega) (by omega)]
      omega
section
variable {n : Nat} {kn of : List S_api_Offer} (hm : Ok n kn of)
include hm
theorem cost_del {s i : Nat} (hs : s < 2 ^ of.length) (hi : s.testBit i = true) : cS of s = cS of (delS of.length s i) + costAt of i := by
  rw [hm.sum', hm.sum']
  refine sum_one _ _ _ i _ (bit_lt hs hi) ?_ hi fun j _ hji => ?_
  · show (delS of.length s i).testBit i = false
    rw [delS_bits hs]; simp
  · show s.testBit j = (delS of.length s i).testBit j
    rw [delS_bits hs]; simp [hji]
theorem cost_add {s i : Nat} (hs : s < 2 ^ of.length) (hi : i < of.length) : cS of (addS s i) ≤ cS of s + costAt of i := by
  cases hb : s.testBit i with
  | true =>
    have e : addS s i = s := by
      apply Nat.eq_of_testBit_eq
      intro j
      rw [addS_bits]
      by_cases q : i = j
      · subst q; rw [hb]; rfl
      · simp [q]
    rw [e]
    have := hm.cost_at (i := i)
    omega
  | false =>
    rw [hm.sum', hm.sum']
    refine Int.le_of_eq (sum_one _ _ _ i _ hi hb ?_ fun j _ hji => ?_)
    · show (addS s i).testBit i = true
      rw [addS_bits]; simp
    · show (addS s i).testBit j = s.testBit j
      rw [addS_bits]
      have : ¬ i = j := fun e => hji e.symm
      simp [this]
theorem edge {s : Nat} {o : S_api_Offer} (ho : o ∈ csS kn of s) {a x b : Nat} (ha : a < n) (hx : x < n) (hb : b < n) (hl : link o x b) : WdS n kn of s a b ≤ WdS n kn of s a x + o.2.2.2 := by
  have h1 := (hm.cl s).tri a x b ha hx hb
  have h2 := (hm.cl s).le x b hx hb
  have h3 := (hm.st s).le o ho x b hl
  omega
theorem off_range {o : S_api_Offer} (ho : o ∈ kn ++ of) : 0 ≤ o.2.2.2 ∧ o.2.2.2 ≤ 1048576 ∧ 0 ≤ o.2.2.1 ∧ o.2.2.1 ≤ 10000 := by
  have : okB (n : Int) 10000 o = true := by
    rcases List.mem_append.1 ho with h | h
    · exact okB_mono (hm.k o h) (by omega)
    · exact hm.o o h
  unfold okB at this; simp at this; omega
/-- Whatever comes from a front is in reach of the next one. -/
theorem front_to {o : S_api_Offer} (ho : o ∈ kn ++ of) {a x b : Nat} (ha : a < n) (hx : x < n) (hb : b < n) (hl : link o x b) {p : Pair} (hp : p ∈ frontS n kn of a x) :
    ∃ q ∈ frontS n kn of a b, q[0] ≤ p[0] + o.2.2.1 ∧ q[1] ≤ p[1] + o.2.2.2 := by
  have hr := off_range hm ho
  obtain ⟨s, hs, hlt, rfl⟩ := mem_prs.1 ((frontS_front n kn of a x).sub p hp)
  have hbx := hm.bound s ha hx hlt
  have e0 : (#v[cS of s, WdS n kn of s a x] : Pair)[0] = cS of s := rfl
  have e1 : (#v[cS of s, WdS n kn of s a x] : Pair)[1] = WdS n kn of s a x := rfl
  rw [e0, e1]
  have key : ∃ t, t < 2 ^ of.length ∧ cS of t ≤ cS of s + o.2.2.1 ∧ WdS n kn of t a b ≤ WdS n kn of s a x + o.2.2.2 := by
    rcases List.mem_append.1 ho with h | h
    · exact ⟨s, hs, by omega, edge hm (mem_csS.2 (.inl h)) ha hx hb hl⟩
    · obtain ⟨i, hi, ei⟩ := List.mem_iff_getElem.1 h
      have ho' : of[i]? = some o := by rw [List.getElem?_eq_getElem hi, ei]
      refine ⟨addS s i, addS_lt hs hi, ?_, ?_⟩
      · have h1 := cost_add hm hs hi
        have h2 : costAt of i = o.2.2.1 := by unfold costAt; rw [ho']; rfl
        omega
      · have h1 := edge hm (s := addS s i) (mem_csS.2 (.inr ⟨i, ho', by rw [addS_bits]; simp⟩)) ha hx hb hl
        have h2 := hm.mono (s := s) (t := addS s i) (fun j hj => by rw [addS_bits, hj]; rfl) ha hx
        omega
  obtain ⟨t, ht, h1, h2⟩ := key
  obtain ⟨q, hq, q0, q1⟩ := (frontS_front n kn of a b).dom #v[cS of t, WdS n kn of t a b] (mem_prs.2 ⟨t, ht, by omega, rfl⟩)
  have f0 : (#v[cS of t, WdS n kn of t a b] : Pair)[0] = cS of t := rfl
  have f1 : (#v[cS of t, WdS n kn of t a b] : Pair)[1] = WdS n kn of t a b := rfl
  exact ⟨q, hq, by omega, by omega⟩
/-- Without the offer of the last step, what lies ahead stays as wide. -/
theorem without_last {s i : Nat} (hs : s < 2 ^ of.length) {o : S_api_Offer} (ho : of[i]? = some o) {a b k x : Nat} (hk : Few n (Stp (csS kn of s)) (WdS n kn of s) a b k) (hlx : link o x b) :
    ∀ j y, j < k → Few n (Stp (csS kn of s)) (WdS n kn of s) a y j → WdS n kn of (delS of.length s i) a y ≤ WdS n kn of s a y := by
  have hcl := hm.cl s
  have hcl' := hm.cl (delS of.length s i)
  intro j
  induction j with
  | zero =>
    intro y _ hf
    obtain ⟨e, hv⟩ := hf.1.zero
    subst e
    rw [hv, hcl'.zero a hf.1.ends.1]; exact Int.le_refl _
  | succ j ih =>
    intro y hj hf
    obtain ⟨z, hz, hlt, he, hzn⟩ := hf.last hcl
    have ha := hf.1.ends.1
    have hy := hf.1.ends.2
    have h1 := ih z (by omega) hz
    have hyb : y ≠ b := fun e => by subst e; have := hf.uniq hk; omega
    have hzb : z ≠ b := fun e => by subst e; have := hz.uniq hk; omega
    -- the step from z to y is there without the offer
    have hstep : Stp (csS kn of (delS of.length s i)) z y ≤ Stp (csS kn of s) z y := by
      obtain ⟨o', ho', hl', e'⟩ := (hm.st s).at_ z y hlt
      rw [e']
      refine (hm.st _).le o' ?_ z y hl'
      rcases mem_csS.1 ho' with h | ⟨i', hi', hb'⟩
      · exact mem_csS.2 (.inl h)
      · refine mem_csS.2 (.inr ⟨i', hi', ?_⟩)
        rw [delS_bits hs, hb']
        have : i' ≠ i := fun e => by
          subst e
          rw [ho] at hi'; cases hi'
          unfold link at hl' hlx
          omega
        simp [this]
    have h2 := hcl'.tri a z y ha hzn hy
    have h3 := hcl'.le z y hzn hy
    omega
/-- Each pair of a front but that of the clock itself comes from another one. -/
theorem front_from {a b : Nat} (ha : a < n) (hb : b < n) (hab : b ≠ a) {p : Pair} (hp : p ∈ frontS n kn of a b) :
    ∃ o ∈ kn ++ of, ∃ x, x < n ∧ link o x b ∧ ∃ q ∈ frontS n kn of a x, p[0] = q[0] + o.2.2.1 ∧ p[1] = q[1] + o.2.2.2 := by
  obtain ⟨s, hs, hlt, e⟩ := mem_prs.1 ((frontS_front n kn of a b).sub p hp)
  have e0 : p[0] = cS of s := by rw [e]; rfl
  have e1 : p[1] = WdS n kn of s a b := by rw [e]; rfl
  have hcl := hm.cl s
  obtain ⟨k, hw⟩ := hcl.att a b ha hb (by unfold Wh.far; exact hlt)
  obtain ⟨k, hk⟩ := few_of k hw
  cases k with
  | zero => exact absurd hk.1.zero.1 (fun e => hab e.symm)
  | succ k =>
    obtain ⟨x, hx, hslt, hd, hxn⟩ := hk.last hcl
    obtain ⟨o, ho, hl, ew⟩ := (hm.st s).at_ x b hslt
    -- a set that pays the rest
    have key : o ∈ kn ++ of ∧ ∃ t, t < 2 ^ of.length ∧ cS of t + o.2.2.1 ≤ cS of s ∧ WdS n kn of t a x ≤ WdS n kn of s a x := by
      rcases mem_csS.1 ho with h | ⟨i, hi, hbit⟩
      · refine ⟨List.mem_append_left _ h, s, hs, ?_, Int.le_refl _⟩
        have := hm.k o h
        unfold okB at this; simp at this; omega
      · refine ⟨List.mem_append_right _ (List.mem_of_getElem? hi), delS of.length s i, delS_lt, ?_, without_last hm hs hi hk hl k x (by omega) hx⟩
        have h1 := cost_del hm hs hbit
        have h2 : costAt of i = o.2.2.1 := by unfold costAt; rw [hi]; rfl
        omega
    obtain ⟨hoo, t, ht, hc, hw'⟩ := key
    have hr := off_range hm hoo
    have hxlt : WdS n kn of t a x < 1099511627776 := by omega
    obtain ⟨q, hq, q0, q1⟩ := (frontS_front n kn of a x).dom #v[cS of t, WdS n kn of t a x] (mem_prs.2 ⟨t, ht, hxlt, rfl⟩)
    have f0 : (#v[cS of t, WdS n kn of t a x] : Pair)[0] = cS of t := rfl
    have f1 : (#v[cS of t, WdS n kn of t a x] : Pair)[1] = WdS n kn of t a x := rfl
    obtain ⟨r, hr', r0, r1⟩ := front_to hm hoo ha hxn hb hl hq
    have he := (frontS_front n kn of a b).one hr' hp (by omega) (by omega)
    subst he
    exact ⟨o, hoo, x, hxn, hl, q, hq, by omega, by omega⟩
theorem front_self {a : Nat} (ha : a < n) : frontS n kn of a a = [#v[0, 0]] := by
  have hp := hm.pos
  refine (frontS_front n kn of a a).uniq ⟨fun p hp' => ?_, by simp, fun p hp' => ?_⟩
  · have hp' := List.mem_singleton.1 hp'
    subst hp'
    have h1 : cS of 0 = 0 := by
      rw [hm.sum']
      have : ((List.range of.length).filter fun i => (0 : Nat).testBit i) = [] := by
        rw [List.filter_eq_nil_iff]; intro i _; simp
      rw [this]; rfl
    exact mem_prs.2 ⟨0, hp, by rw [(hm.cl 0).zero a ha]; omega, by rw [h1, (hm.cl 0).zero a ha]⟩
  · obtain ⟨s, _, _, rfl⟩ := mem_prs.1 hp'
    have h1 := (hm.costs (s := s)).1
    have h2 := (hm.cl s).nonneg a a ha ha
    exact ⟨#v[0, 0], by simp, h1, h2⟩
end
/-! ### what comes from other fronts -/
def addP (o : S_api_Offer) (p : Pair) : Pair := #v[p[0] + o.2.2.1, p[1] + o.2.2.2]
def comeO (fr : Nat → List Pair) (b : Nat) (o : S_api_Offer) : List Pair := (if o.2.1 = (b : Int) then (fr o.1.toNat).map (addP o) else []) ++ (if o.1 = (b : Int) then (fr o.2.1.toNat).map (addP o) else [])
theorem mem_come {fr : Nat → List Pair} {b : Nat} {all : List S_api_Offer} {p : Pair} (hall : ∀ o ∈ all, 0 ≤ o.1 ∧ 0 ≤ o.2.1) : p ∈ all.flatMap (comeO fr b) ↔ ∃ o ∈ all, ∃ x, link o x b ∧ ∃ q ∈ fr x, p = addP o q := by
  rw [List.mem_flatMap]
  constructor
  · rintro ⟨o, ho, h⟩
    have hr := hall o ho
    unfold comeO at h
    rcases List.mem_append.1 h with h | h
    · split at h
      · rename_i e
        obtain ⟨q, hq, rfl⟩ := List.mem_map.1 h
        exact ⟨o, ho, o.1.toNat, .inl ⟨by omega, e⟩, q, hq, rfl⟩
      · cases h
    · split at h
      · rename_i e
        obtain ⟨q, hq, rfl⟩ := List.mem_map.1 h
        exact ⟨o, ho, o.2.1.toNat, .inr ⟨e, by omega⟩, q, hq, rfl⟩
      · cases h
  · rintro ⟨o, ho, x, hl, q, hq, rfl⟩
    refine ⟨o, ho, ?_⟩
    unfold comeO
    rcases hl with ⟨h1, h2⟩ | ⟨h1, h2⟩
    · refine List.mem_append_left _ ?_
      rw [if_pos h2, h1, Int.toNat_natCast]
      exact List.mem_map.2 ⟨q, hq, rfl⟩
    · refine List.mem_append_right _ ?_
      rw [if_pos h1, h2, Int.toNat_natCast]
      exact List.mem_map.2 ⟨q, hq, rfl⟩
theorem f46_eq {a b : List S_api_Offer} (ha : a.length ≤ 4096) (hb : b.length ≤ 4096) : M.f46 [a, b] = some (a ++ b) := by
  unfold M.f46
  have n2 : ((([a, b] : List (List S_api_Offer)).length : Int)) = ((2 : Nat) : Int) := rfl
  rw [n2]
  refine bnd (forS_st (fun j => match j with | 0 => (0 : Int) | 1 => (a.length : Int) | _ => ((a.length + b.length : Nat) : Int)) rfl (by omega) fun j hj => ?_) ?_
  · match j, hj with
    | 0, _ =>
      refine bnd (y := a) rfl ?_
      show ((if decide (wr (0 + (a.length : Int)) < 0) = true then none else some ()) >>= fun () => some (wr (0 + (a.length : Int)))) = some (a.length : Int)
      rw [Int.zero_add, wr_id (by omega) (by omega), if_neg (by simp)]
      rfl
    | 1, _ =>
      refine bnd (y := b) rfl ?_
      show ((if decide (wr ((a.length : Int) + (b.length : Int)) < 0) = true then none else some ()) >>= fun () => some (wr ((a.length : Int) + (b.length : Int)))) = some ((a.length + b.length : Nat) : Int)
      rw [wr_id (by omega) (by omega), if_neg (by simp; omega)]
      rfl
  · refine bnd (y := ()) ?_ ?_
    · show M.f98 ((a.length + b.length : Nat) : Int) = some ()
      unfold M.f98
      rw [if_pos (by omega)]
    · refine bnd (forS_st (fun j => match j with | 0 => [] | 1 => a | _ => a ++ b) rfl (by omega) fun j hj => ?_) rfl
      match j, hj with
      | 0, _ =>
        refine bnd (y := a) rfl (bnd (y := a) ?_ rfl)
        show app ([] : List S_api_Offer) a = some a
        unfold app
        rw [if_pos (by simp; omega)]; rfl
      | 1, _ =>
        refine bnd (y := b) rfl (bnd (y := a ++ b) ?_ rfl)
        show app a b = some (a ++ b)
        unfold app
        rw [if_pos (by omega)]
theorem f47_eq {F : List Pair} {p : Pair} (h : F.length ≤ 4096) : M.f47 F p = some (F.any fun q => p == q) := by
  unfold M.f47 M.f99
  refine bnd (y := idxF (fun q => p == q) F) (bnd (forM_idx F (fun q => p == q) (by omega) fun j q hq => ?_) ?_) ?_
  · rw [idx_nat, hq]
    simp only [Option.bind_eq_bind, Option.bind_some]
    split <;> rfl
  · unfold idxF
    cases F.findIdx? (fun q => p == q) <;> rfl
  · rw [idxF_any]
theorem f49_eq (q p : Pair) : M.f49 q p = some (leP q p) := by
  unfold M.f49 leP
  simp only [e0P, e1P, Option.bind_eq_bind, Option.bind_some]
  by_cases h : q[0] ≤ p[0]
  · simp [h, guardO]
  · simp [h, guardO]
theorem f48_eq {F : List Pair} {p : Pair} (h : F.length ≤ 4096) : M.f48 F ((fun x0 => M.f49 x0 p) : (Pair → Option Bool)) = some (F.any fun q => leP q p) := by
  unfold M.f48 M.f38
  refine bnd (y := idxF (fun q => leP q p) F) (bnd (forM_idx F (fun q => leP q p) (by omega) fun j q hq => ?_) ?_) ?_
  · rw [idx_nat, hq]
    simp only [Option.bind_eq_bind, Option.bind_some, f49_eq]
    split <;> rfl
  · unfold idxF
    cases F.findIdx? (fun q => leP q p) <;> rfl
  · rw [idxF_any]
end Go.Proofs.Ytkbilbeaedocjaa
