/-
  What is proved: what connects all clocks at the least cost has fewer offers than there are clocks.
-/
import Derived.Test.YtkbilbeaedocjaaKeepK
namespace Go.Proofs.Ytkbilbeaedocjaa
open Go Go.Proofs.Ytkbilbeaedocjaa.Wh
set_option maxRecDepth 100000

/-- Whether two clocks are compared at all. -/
def Con (n : Nat) (kn of : List S_api_Offer) (s a b : Nat) : Prop := WdS n kn of s a b < 1099511627776
instance (n : Nat) (kn of : List S_api_Offer) (s a b : Nat) : Decidable (Con n kn of s a b) := by unfold Con; infer_instance
section
variable {n : Nat} {kn of : List S_api_Offer} (hm : Ok n kn of)
include hm
theorem con_refl {s a : Nat} (ha : a < n) : Con n kn of s a a := by
  unfold Con
  rw [(hm.cl s).zero a ha]; omega
theorem con_symm {s a b : Nat} (ha : a < n) (hb : b < n) (h : Con n kn of s a b) : Con n kn of s b a := by
  unfold Con at *
  rwa [hm.sym s hb ha]
theorem con_trans {s a b c : Nat} (ha : a < n) (hb : b < n) (hc : c < n) (h : Con n kn of s a b) (k : Con n kn of s b c) : Con n kn of s a c := by
  unfold Con at *
  have h1 := hm.bound s ha hb h
  have h2 := hm.bound s hb hc k
  have h3 := (hm.cl s).tri a b c ha hb hc
  omega
/-- What the single comparisons connect, ways connect. -/
theorem con_of {s t : Nat} (h : ∀ o ∈ csS kn of s, ∀ a b, a < n → b < n → link o a b → Con n kn of t a b) {a b : Nat} (ha : a < n) (hb : b < n) (hc : Con n kn of s a b) : Con n kn of t a b := by
  have hlb := (hm.cl s).lb (E := fun a b => if Con n kn of t a b then 0 else Wh.far) (fun a b ha hb => by
      by_cases q : Stp (csS kn of s) a b < Wh.far
      · obtain ⟨o, ho, hl, e⟩ := (hm.st s).at_ a b q
        have := (hm.st s).pos a b
        show (if Con n kn of t a b then (0 : Int) else Wh.far) ≤ _
        rw [if_pos (h o ho a b ha hb hl)]; exact this
      · show (if Con n kn of t a b then (0 : Int) else Wh.far) ≤ _
        have := (hm.st s).pos a b
        split <;> omega)
    (fun a ha => by show (if Con n kn of t a a then (0 : Int) else Wh.far) ≤ 0; rw [if_pos (con_refl hm ha)]; omega)
    (fun a b c ha hb hc => by
      show (if Con n kn of t a c then (0 : Int) else Wh.far) ≤ (if Con n kn of t a b then (0 : Int) else Wh.far) + (if Con n kn of t b c then (0 : Int) else Wh.far)
      have hf : (0 : Int) ≤ Wh.far := by unfold Wh.far; omega
      by_cases q1 : Con n kn of t a b
      · by_cases q2 : Con n kn of t b c
        · rw [if_pos (con_trans hm ha hb hc q1 q2), if_pos q1, if_pos q2]; omega
        · rw [if_neg q2, if_pos q1]; split <;> omega
      · rw [if_neg q1]; split <;> split <;> omega)
    (fun a b ha hb => by
      show (if Con n kn of t a b then (0 : Int) else Wh.far) ≤ _
      have hf : (0 : Int) ≤ Wh.far := by unfold Wh.far; omega
      split <;> omega) ha hb
  have hlb : (if Con n kn of t a b then (0 : Int) else Wh.far) ≤ WdS n kn of s a b := hlb
  by_cases q : Con n kn of t a b
  · exact q
  · rw [if_neg q] at hlb
    unfold Con at hc; unfold Wh.far at hlb
    omega
/-! ### the least clock of those that are connected -/
def Rep (n : Nat) (kn of : List S_api_Offer) (s a : Nat) : Bool := decide (∀ b, b < a → ¬ Con n kn of s b a)
def reps (n : Nat) (kn of : List S_api_Offer) (s : Nat) : Nat := ((List.range n).filter (Rep n kn of s)).length
omit hm in
theorem filter_lt {p q : Nat → Bool} {x : Nat} : ∀ {n : Nat}, (∀ i, i < n → q i = true → p i = true) → x < n → p x = true → q x = false → ((List.range n).filter q).length < ((List.range n).filter p).length
  | 0, _, h, _, _ => by omega
  | n + 1, h, hx, hp, hq => by
    have hle : ∀ m, m ≤ n → ((List.range m).filter q).length ≤ ((List.range m).filter p).length := by
      intro m
      induction m with
      | zero => intro _; simp
      | succ m ih =>
        intro hmn
        have := ih (by omega)
        rw [List.range_succ, List.filter_append, List.filter_append, List.length_append, List.length_append]
        have hmm := h m (by omega)
        cases hqm : q m with
        | false => simp [hqm]; omega
        | true => simp [hqm, hmm hqm]; omega
    rw [List.range_succ, List.filter_append, List.filter_append, List.length_append, List.length_append]
    by_cases e : x = n
    · subst e
      have := hle x (Nat.le_refl _)
      simp [hp, hq]; omega
    · have ih := filter_lt (n := n) (fun i hi => h i (by omega)) (show x < n by omega) hp hq
      have hnn := h n (by omega)
      cases hqn : q n with
      | false => simp [hqn]; omega
      | true => simp [hqn, hnn hqn]; omega
theorem rep_exists {s a : Nat} (ha : a < n) : ∃ r, r ≤ a ∧ Con n kn of s r a ∧ Rep n kn of s r = true := by
  induction a using Nat.strongRecOn with
  | _ a ih =>
    by_cases q : ∃ b, b < a ∧ Con n kn of s b a
    · obtain ⟨b, hb, hc⟩ := q
      obtain ⟨r, h1, h2, h3⟩ := ih b hb (by omega)
      exact ⟨r, by omega, con_trans hm (by omega) (by omega) ha h2 hc, h3⟩
    · refine ⟨a, Nat.le_refl _, con_refl hm ha, ?_⟩
      unfold Rep
      rw [decide_eq_true_eq]
      exact fun b hb hc => q ⟨b, hb, hc⟩
/-- A further offer that connects what was not connected leaves fewer parts. -/
theorem reps_lt {s t x y : Nat} (hst : Sub s t) (hx : x < n) (hy : y < n) (h1 : ¬ Con n kn of s x y) (h2 : Con n kn of t x y) : reps n kn of t < reps n kn of s := by
  have hmono : ∀ a b, a < n → b < n → Con n kn of s a b → Con n kn of t a b := fun a b ha hb h => by
    unfold Con at *
    have := hm.mono hst ha hb
    omega
  have hsub : ∀ i, i < n → Rep n kn of t i = true → Rep n kn of s i = true := by
    intro i hi h
    unfold Rep at *
    rw [decide_eq_true_eq] at *
    exact fun b hb hc => h b hb (hmono b i (by omega) hi hc)
  obtain ⟨r, r1, r2, r3⟩ := rep_exists hm (s := s) hx
  obtain ⟨u, u1, u2, u3⟩ := rep_exists hm (s := s) hy
  have hr : r < n := by omega
  have hu : u < n := by omega
  have hne : r ≠ u := fun e => by
    subst e
    exact h1 (con_trans hm hx hr hy (con_symm hm hr hx r2) u2)
  have hcon : Con n kn of t r u := con_trans hm hr hx hu (hmono _ _ hr hx r2) (con_trans hm hx hy hu h2 (con_symm hm hu hy (hmono _ _ hu hy u2)))
  unfold reps
  rcases Nat.lt_or_ge r u with q | q
  · refine filter_lt hsub hu u3 ?_
    unfold Rep
    rw [decide_eq_false_iff_not]
    exact fun h => h r q hcon
  · refine filter_lt hsub hr r3 ?_
    unfold Rep
    rw [decide_eq_false_iff_not]
    exact fun h => h u (by omega) (con_symm hm hr hu hcon)
omit hm in
theorem reps_le {s : Nat} : reps n kn of s ≤ n := by
  unfold reps
  have := List.length_filter_le (Rep n kn of s) (List.range n)
  rwa [List.length_range] at this
theorem reps_pos {s : Nat} : 0 < reps n kn of s := by
  have h2 := hm.n2
  unfold reps
  apply List.length_pos_of_mem (a := 0)
  rw [List.mem_filter]
  refine ⟨by simp; omega, ?_⟩
  unfold Rep
  rw [decide_eq_true_eq]
  exact fun b hb => absurd hb (by omega)
/-- The first offers of a list. -/
def pre (of : List S_api_Offer) (t j : Nat) : Nat := bset ((sel of.length t).take j)
omit hm in
theorem pre_bits {t j i : Nat} : (pre of t j).testBit i = decide (i ∈ (sel of.length t).take j) := bset_bit _ _
/-- If no offer of t can be left out, there are fewer of them than clocks. -/
theorem few_offers {t : Nat} (ht : t < 2 ^ of.length) (hall : ∀ a b, a < n → b < n → Con n kn of t a b) (hneed : ∀ i, t.testBit i = true → ∃ a b, a < n ∧ b < n ∧ ∀ u, u < 2 ^ of.length → (∀ k, u.testBit k = (t.testBit k && decide (k ≠ i))) → ¬ Con n kn of u a b) : (sel of.length t).length < n := by
  have hinc := sel_incr of.length t
  have step : ∀ j, j < (sel of.length t).length → reps n kn of (pre of t (j + 1)) < reps n kn of (pre of t j) := by
    intro j hj
    have hx := List.getElem?_eq_getElem hj
    generalize hi : (sel of.length t)[j] = i at hx
    have hmem : i ∈ sel of.length t := by rw [← hi]; exact List.getElem_mem hj
    obtain ⟨hlt, hbit⟩ := mem_sel.1 hmem
    have ho := List.getElem?_eq_getElem hlt
    generalize of[i] = o at ho
    have hok := hm.o o (List.mem_of_getElem? ho)
    obtain ⟨⟨x, hx1, hx2⟩, ⟨y, hy1, hy2⟩, _⟩ := okC_of hok
    have hlink : link o x y := .inl ⟨hx1, hy1⟩
    have hnot : i ∉ (sel of.length t).take j := by
      intro hmem'
      obtain ⟨q, hq, e⟩ := List.mem_iff_getElem.1 hmem'
      rw [List.getElem_take] at e
      rw [List.length_take] at hq
      have := List.pairwise_iff_getElem.1 hinc q j (by omega) hj (by omega)
      omega
    refine reps_lt hm (x := x) (y := y) (fun k hk => ?_) hx2 hy2 (fun hcon => ?_) ?_
    · rw [pre_bits, decide_eq_true_eq] at *
      rw [List.take_add_one]
      exact List.mem_append_left _ hk
    · -- then this one could be left out
      obtain ⟨a, b, ha, hb, hn⟩ := hneed i hbit
      have hbits : ∀ k, (bset ((sel of.length t).filter (fun k => decide (k ≠ i)))).testBit k = (t.testBit k && decide (k ≠ i)) := by
        intro k
        rw [bset_bit]
        apply Bool.eq_iff_iff.2
        rw [decide_eq_true_eq, List.mem_filter, mem_sel, Bool.and_eq_true]
        constructor
        · rintro ⟨⟨_, h1⟩, h2⟩; exact ⟨h1, h2⟩
        · rintro ⟨h1, h2⟩
          refine ⟨⟨?_, h1⟩, h2⟩
          rcases Nat.lt_or_ge k of.length with q | q
          · exact q
          · rw [Nat.testBit_lt_two_pow (Nat.lt_of_lt_of_le ht (Nat.pow_le_pow_right (by decide) q))] at h1; cases h1
      refine hn _ (bset_lt fun k hk => ?_) hbits (con_of hm (s := t) (fun p hp c d hc hd hl => ?_) ha hb (hall a b ha hb))
      · exact (mem_sel.1 (List.mem_filter.1 hk).1).1
      · -- what is left connects the ends of each
        generalize hu : bset ((sel of.length t).filter (fun k => decide (k ≠ i))) = u at hbits
        have hpre : Sub (pre of t j) u := fun k hk => by
          rw [pre_bits, decide_eq_true_eq] at hk
          rw [hbits, Bool.and_eq_true]
          exact ⟨(mem_sel.1 (List.mem_of_mem_take hk)).2, by simp; rintro rfl; exact hnot hk⟩
        have hxy : Con n kn of u x y := by
          have := hm.mono hpre hx2 hy2
          unfold Con at *; omega
        have own : ∀ q, q ∈ csS kn of u → link q c d → Con n kn of u c d := fun q hq hl' => by
          have h1 := (hm.st u).le q hq c d hl'
          have h2 := (hm.cl u).le c d hc hd
          have h3 := hm.okS u q hq
          unfold okB at h3; simp at h3
          unfold Con; omega
        rcases mem_csS.1 hp with hp | ⟨k, hk, hkb⟩
        · exact own p (mem_csS.2 (.inl hp)) hl
        · by_cases e : k = i
          · subst e
            rw [ho] at hk
            cases hk
            rcases hl with ⟨l1, l2⟩ | ⟨l1, l2⟩
            · have : c = x := by omega
              have : d = y := by omega
              subst c; subst d; exact hxy
            · have : d = x := by omega
              have : c = y := by omega
              subst c; subst d; exact con_symm hm hx2 hy2 hxy
          · exact own p (mem_csS.2 (.inr ⟨k, hk, by rw [hbits, hkb]; simp [e]⟩)) hl
    · have hin : o ∈ csS kn of (pre of t (j + 1)) := mem_csS.2 (.inr ⟨i, ho, by
        rw [pre_bits, decide_eq_true_eq, List.take_add_one, hx]; simp⟩)
      have h1 := (hm.st (pre of t (j + 1))).le o hin x y hlink
      have h2 := (hm.cl (pre of t (j + 1))).le x y hx2 hy2
      unfold okB at hok; simp at hok
      unfold Con; omega
  have total : ∀ j, j ≤ (sel of.length t).length → reps n kn of (pre of t j) + j ≤ n := by
    intro j
    induction j with
    | zero => intro _; exact reps_le
    | succ j ih =>
      intro hj
      have h1 := ih (by omega)
      have h2 := step j (by omega)
      omega
  have h1 := total _ (Nat.le_refl _)
  have h2 := reps_pos hm (s := pre of t (sel of.length t).length)
  omega
end
end Go.Proofs.Ytkbilbeaedocjaa
