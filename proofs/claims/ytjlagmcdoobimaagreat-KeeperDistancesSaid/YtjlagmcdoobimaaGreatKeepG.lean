/-
  What is proved: the widths of a market are the closure of its comparisons; what is bought, as bits; the errors of questions; the least lists.
-/
import Derived.Test.YtjlagmcdoobimaaGreatKeepA
namespace Go.Proofs.YtjlagmcdoobimaaGreat
open Go Go.Proofs.YtjlagmcdoobimaaGreat.Wh
set_option maxRecDepth 100000

/-! ### steps -/
def link (o : S_api_Offer) (a b : Nat) : Prop := (o.1 = (a : Int) ∧ o.2.1 = (b : Int)) ∨ (o.1 = (b : Int) ∧ o.2.1 = (a : Int))
theorem link.symm {o : S_api_Offer} {a b : Nat} (h : link o a b) : link o b a := by unfold link at *; omega
structure Steps (cs : List S_api_Offer) (R : Nat → Nat → Int) : Prop where
  sym : ∀ a b, R a b = R b a
  pos : ∀ a b, 0 ≤ R a b
  far : ∀ a b, R a b ≤ Wh.far
  le : ∀ o ∈ cs, ∀ a b, link o a b → R a b ≤ o.2.2.2
  at_ : ∀ a b, R a b < Wh.far → ∃ o ∈ cs, link o a b ∧ R a b = o.2.2.2
theorem Steps.nil : Steps [] far0 where
  sym _ _ := rfl
  pos _ _ := by unfold far0; omega
  far _ _ := by unfold far0 Wh.far; omega
  le o ho := by cases ho
  at_ a b h := by unfold far0 Wh.far at h; omega
theorem Steps.one {n : Nat} {c : Int} {cs : List S_api_Offer} {R : Nat → Nat → Int} {o : S_api_Offer} (h : Steps cs R) (ho : okB (n : Int) c o = true) : Steps (cs ++ [o]) (stepK R o) := by
  obtain ⟨⟨x, hx, _⟩, ⟨y, hy, _⟩, hne⟩ := okC_of ho
  have hw : 0 ≤ o.2.2.2 ∧ o.2.2.2 ≤ 1048576 := by unfold okB at ho; simp at ho; omega
  have ev : ∀ a b, (link o a b → stepK R o a b = imin (R a b) o.2.2.2) ∧ (¬ link o a b → stepK R o a b = R a b) := by
    intro a b
    unfold stepK updM
    have ex : o.1.toNat = x := by omega
    have ey : o.2.1.toNat = y := by omega
    rw [ex, ey]
    have hxy : x ≠ y := fun e => hne (by rw [hx, hy, e])
    by_cases h1 : a = y ∧ b = x
    · obtain ⟨rfl, rfl⟩ := h1
      rw [if_pos ⟨rfl, rfl⟩]
      exact ⟨fun _ => by rw [h.sym], fun q => absurd (.inr ⟨hx, hy⟩) q⟩
    · rw [if_neg h1]
      by_cases h2 : a = x ∧ b = y
      · obtain ⟨rfl, rfl⟩ := h2
        rw [if_pos ⟨rfl, rfl⟩]
        exact ⟨fun _ => rfl, fun q => absurd (.inl ⟨hx, hy⟩) q⟩
      · rw [if_neg h2]
        refine ⟨fun q => ?_, fun _ => rfl⟩
        unfold link at q
        omega
  have hl : ∀ a b, imin (R a b) o.2.2.2 ≤ R a b ∧ imin (R a b) o.2.2.2 ≤ o.2.2.2 ∧ (imin (R a b) o.2.2.2 = R a b ∨ imin (R a b) o.2.2.2 = o.2.2.2) := by
    intro a b; unfold imin; split <;> omega
  refine ⟨fun a b => ?_, fun a b => ?_, fun a b => ?_, fun p hp a b hl' => ?_, fun a b hlt => ?_⟩
  · by_cases q : link o a b
    · rw [(ev a b).1 q, (ev b a).1 q.symm, h.sym]
    · rw [(ev a b).2 q, (ev b a).2 (fun e => q e.symm), h.sym]
  · by_cases q : link o a b
    · rw [(ev a b).1 q]; have := hl a b; have := h.pos a b; omega
    · rw [(ev a b).2 q]; exact h.pos a b
  · by_cases q : link o a b
    · rw [(ev a b).1 q]; have := hl a b; have := h.far a b; omega
    · rw [(ev a b).2 q]; exact h.far a b
  · by_cases q : link o a b
    · rw [(ev a b).1 q]
      rcases List.mem_append.1 hp with hp | hp
      · have := h.le p hp a b hl'; have := hl a b; omega
      · simp at hp; subst hp; exact (hl a b).2.1
    · rw [(ev a b).2 q]
      rcases List.mem_append.1 hp with hp | hp
      · exact h.le p hp a b hl'
      · simp at hp; subst hp; exact absurd hl' q
  · by_cases q : link o a b
    · rw [(ev a b).1 q] at hlt ⊢
      rcases (hl a b).2.2 with e | e
      · rw [e] at hlt ⊢
        obtain ⟨p, hp, h1, h2⟩ := h.at_ a b hlt
        exact ⟨p, by simp [hp], h1, h2⟩
      · exact ⟨o, by simp, q, e⟩
    · rw [(ev a b).2 q] at hlt ⊢
      obtain ⟨p, hp, h1, h2⟩ := h.at_ a b hlt
      exact ⟨p, by simp [hp], h1, h2⟩
theorem Steps.fold {n : Nat} {c : Int} : ∀ {cs ds : List S_api_Offer} {R : Nat → Nat → Int}, Steps cs R → (∀ o ∈ ds, okB (n : Int) c o = true) → Steps (cs ++ ds) (ds.foldl stepK R)
  | cs, [], R, h, _ => by simpa using h
  | cs, o :: ds, R, h, hd => by
    have := (h.one (hd o (by simp))).fold (ds := ds) (fun p hp => hd p (by simp [hp]))
    simpa using this
theorem okB_mono {n c d : Int} {o : S_api_Offer} (h : okB n c o = true) (hcd : c ≤ d) : okB n d o = true := by
  unfold okB at *; simp at *; omega
/-- The steps of some comparisons. -/
def Stp (cs : List S_api_Offer) : Nat → Nat → Int := cs.foldl stepK far0
theorem st_steps {n : Nat} {c : Int} {cs : List S_api_Offer} (h : ∀ o ∈ cs, okB (n : Int) c o = true) : Steps cs (Stp cs) := by
  have := Steps.nil.fold (ds := cs) h
  rwa [List.nil_append] at this
theorem relax_stp (c a b : Nat) (F : Nat → Nat → Int) : relax c a b F = stp hmin c a b F := by
  unfold relax stp hmin
  split
  · rfl
  · funext x y
    unfold updM
    split
    · rename_i h; obtain ⟨rfl, rfl⟩ := h; rfl
    · rfl
theorem fw_cls (n : Nat) (F : Nat → Nat → Int) : fw n F = cls hmin n F := by
  unfold fw cls phs rowp
  simp only [relax_stp]
theorem wd_cl {n : Nat} {c : Int} {cs : List S_api_Offer} (h : ∀ o ∈ cs, okB (n : Int) c o = true) : Cl n (Stp cs) (Wd n cs) := by
  unfold Wd
  rw [fw_cls]
  have hs := st_steps h
  exact cl_of (fun a b _ _ => ⟨hs.pos a b, hs.far a b⟩) (fun a b _ _ => rfl)
theorem wd_cl0 {n : Nat} {cs : List S_api_Offer} (c : Int) (h : ∀ o ∈ cs, okB (n : Int) c o = true) : Cl n (Stp cs) (Wd n cs) := wd_cl h
/-! ### what is bought -/
theorem mem_sel {k s i : Nat} : i ∈ sel k s ↔ i < k ∧ s.testBit i = true := by unfold sel; simp
theorem sel_incr (k s : Nat) : Incr (sel k s) := by
  unfold Incr sel
  exact List.pairwise_lt_range.filter _
theorem sel_bset {l : List Nat} {k : Nat} (h : Incr l) (hl : ∀ i ∈ l, i < k) : sel k (bset l) = l := by
  refine incr_ext (sel_incr _ _) h fun i => ?_
  rw [mem_sel, bset_bit]
  simp
  exact hl i
theorem sel_inj {k s t : Nat} (hs : s < 2 ^ k) (ht : t < 2 ^ k) (h : sel k s = sel k t) : s = t := by
  apply Nat.eq_of_testBit_eq
  intro i
  by_cases q : i < k
  · have : i ∈ sel k s ↔ i ∈ sel k t := by rw [h]
    rw [mem_sel, mem_sel] at this
    apply Bool.eq_iff_iff.2
    constructor <;> intro e
    · exact (this.1 ⟨q, e⟩).2
    · exact (this.2 ⟨q, e⟩).2
  · rw [Nat.testBit_lt_two_pow (Nat.lt_of_lt_of_le hs (Nat.pow_le_pow_right (by decide) (by omega))), Nat.testBit_lt_two_pow (Nat.lt_of_lt_of_le ht (Nat.pow_le_pow_right (by decide) (by omega)))]
theorem mem_picks {of : List S_api_Offer} {l : List Nat} {o : S_api_Offer} : o ∈ picks of l ↔ ∃ i ∈ l, of[i]? = some o := by
  unfold picks; rw [List.mem_filterMap]
theorem f34_eq {l : List Nat} (hl : ∀ i ∈ l, i < 12) (hn : l.length ≤ 4096) : M.f34 (cst l) = some ((bset l : Nat) : Int) := by
  unfold M.f34
  rw [show ((cst l).length : Int) = (l.length : Int) from by rw [cst_length]]
  refine bnd (y := ((bset l : Nat) : Int)) ?_ rfl
  have := forS_st (f := fun i_1 s_3 => (idx (cst l) i_1) >>= fun v_7 => (shl 1 v_7) >>= fun v_9 => some (bor s_3 v_9)) (N := l.length) (s := 0) (fun j => ((bset (l.take j) : Nat) : Int)) rfl (by omega) fun j hj => by
    have hx := List.getElem?_eq_getElem hj
    have hi := hl l[j] (by simp)
    refine bnd (cst_get hx) (bnd (shl_one (by omega)) ?_)
    have hb : bset (l.take j) < 2 ^ 12 := bset_lt fun i hi => hl i (List.mem_of_mem_take hi)
    have hp : 2 ^ l[j] < 2 ^ 12 := Nat.pow_lt_pow_right (by decide) hi
    rw [bor_nat (by omega) (by omega), bset_take hx]
  rwa [List.take_length] at this
/-- Lists of numbers of offers that can be bought. -/
def okAt (k : Nat) (l : List Int) (j : Nat) : Bool := decide (0 ≤ (l[j]?.getD 0)) && decide ((l[j]?.getD 0) < (k : Int)) && (decide (j = 0) || decide ((l[j - 1]?.getD 0) < (l[j]?.getD 0)))
def boughtB (k : Nat) (l : List Int) : Bool := (List.range l.length).all (okAt k l)
theorem bought_iff {k : Nat} {l : List Int} : boughtB k l = true ↔ ∃ q : List Nat, l = cst q ∧ Incr q ∧ ∀ i ∈ q, i < k := by
  unfold boughtB
  rw [List.all_eq_true]
  simp only [List.mem_range]
  constructor
  · intro h
    have h0 : ∀ j (hj : j < l.length), 0 ≤ l[j] ∧ l[j] < (k : Int) ∧ (j = 0 ∨ (l[j - 1]?.getD 0) < l[j]) := fun j hj => by
      have := h j hj
      unfold okAt at this
      rw [List.getElem?_eq_getElem hj] at this
      simp only [Option.getD_some] at this
      simp at this
      omega
    have hinc : ∀ i j (hi : i < l.length) (hj : j < l.length), i < j → l[i] < l[j] := by
      intro i j
      induction j with
      | zero => intro _ _ h; omega
      | succ j ih =>
        intro hi hj hij
        have h1 := (h0 (j + 1) hj).2.2
        rw [show j + 1 - 1 = j from rfl, List.getElem?_eq_getElem (by omega), Option.getD_some] at h1
        by_cases e : i = j
        · subst e; omega
        · have := ih hi (by omega) (by omega); omega
    refine ⟨l.map Int.toNat, ?_, ?_, ?_⟩
    · unfold cst
      rw [List.map_map]
      apply List.ext_getElem
      · simp
      · intro i h1 h2
        have := (h0 i h1).1
        simp
        omega
    · unfold Incr
      rw [List.pairwise_iff_getElem]
      intro i j hi hj hij
      simp at hi hj ⊢
      have := hinc i j hi hj hij
      have := (h0 i hi).1
      omega
    · intro i hi
      obtain ⟨x, hx, rfl⟩ := List.mem_map.1 hi
      obtain ⟨j, hj, rfl⟩ := List.mem_iff_getElem.1 hx
      have := h0 j hj
      omega
  · rintro ⟨q, rfl, h1, h2⟩ j hj
    rw [cst_length] at hj
    unfold okAt
    have e : ∀ (i : Nat) (hi : i < q.length), (cst q)[i]?.getD 0 = (q[i] : Int) := fun i hi => by simp [cst, hi]
    rw [e j hj]
    have h3 := h2 q[j] (by simp)
    simp
    refine ⟨h3, ?_⟩
    by_cases z : j = 0
    · exact .inl z
    · right
      have h4 := e (j - 1) (by omega)
      rw [h4]
      unfold Incr at h1
      rw [List.pairwise_iff_getElem] at h1
      have := h1 (j - 1) j (by omega) hj (by omega)
      omega
/-- A right list is that of a number. -/
theorem bought_set {k : Nat} {l : List Int} (h : boughtB k l = true) : ∃ s, s < 2 ^ k ∧ l = cst (sel k s) := by
  obtain ⟨q, rfl, h1, h2⟩ := bought_iff.1 h
  exact ⟨bset q, bset_lt h2, by rw [sel_bset h1 h2]⟩
theorem set_bought (k s : Nat) : boughtB k (cst (sel k s)) = true := bought_iff.2 ⟨_, rfl, sel_incr k s, fun _ hi => sel_lt hi⟩
theorem bset_sel {k s : Nat} (hs : s < 2 ^ k) : bset (sel k s) = s := by
  have h1 : bset (sel k s) < 2 ^ k := bset_lt fun i hi => sel_lt hi
  exact sel_inj h1 hs (sel_bset (sel_incr k s) fun i hi => sel_lt hi)
/-! ### the errors of questions -/
def clockB (n : Int) (x : Int) : Bool := decide (0 ≤ x) && decide (x < n)
def sizeB (x : Int) : Bool := decide (0 ≤ x) && decide (x ≤ 16777216)
def codeQ (m : S_api_Market) (l cl sz : List Int) : Int := if validB m = true then (if (boughtB m.2.2.length l && cl.all (clockB m.1) && sz.all sizeB) = true then 0 else 1) else 80
theorem f32_eqQ (m : S_api_Market) (l cl sz : List Int) (h1 : l.length ≤ 4096) (h2 : cl.length ≤ 4096) (h3 : sz.length ≤ 4096) : M.f32 m l (cl, sz) = some (codeQ m l cl sz) := by
  unfold M.f32 codeQ
  refine bnd (f25_eq m) ?_
  cases hv : validB m with
  | false => simp
  | true =>
    have hm : m.2.2.length ≤ 12 := by unfold validB at hv; simp at hv; omega
    rw [if_pos rfl, if_pos rfl]
    rw [if_neg (by decide)]
    refine bnd (forM_test (okAt m.2.2.length l) (1 : Int) (by omega) fun j hj hp => ?_) ?_
    · rw [idx_nat, List.getElem?_eq_getElem hj]
      simp only [Option.bind_eq_bind, Option.bind_some]
      have e1 : l[j]?.getD 0 = l[j] := by rw [List.getElem?_eq_getElem hj]; rfl
      unfold okAt
      rw [e1]
      by_cases q1 : l[j] < 0
      · simp [q1, guardO]; omega
      · by_cases q2 : (m.2.2.length : Int) ≤ l[j]
        · simp [q2, guardO]; omega
        · by_cases q3 : j = 0
          · subst q3
            have a1 : 0 ≤ l[0] := by omega
            have a2 : l[0] < (m.2.2.length : Int) := by omega
            simp [q1, q2, a2, guardO]
          · have q4 : (0 : Int) < (j : Int) := by omega
            have e2 : wr ((j : Int) - 1) = ((j - 1 : Nat) : Int) := by rw [wr_id (by omega) (by omega)]; omega
            simp only [q1, q2, q4, guardO, decide_true, decide_false, Bool.or_false, Bool.not_false, Bool.true_and, e2, idx_nat, Bool.false_or]
            rw [List.getElem?_eq_getElem (show j - 1 < l.length by omega)]
            simp only [Option.bind_some, Option.getD_some]
            by_cases q5 : l[j] ≤ l[j - 1]
            · have : ¬ l[j - 1] < l[j] := by omega
              simp [q5, this, q3]
            · have : l[j - 1] < l[j] := by omega
              have a1 : 0 ≤ l[j] := by omega
              have a2 : l[j] < (m.2.2.length : Int) := by omega
              simp [q5, this, a1, a2]
    · show Out.elim (if boughtB m.2.2.length l = true then _ else _) _ _ = _
      cases hb : boughtB m.2.2.length l with
      | false => simp [Out.elim]
      | true =>
        simp only [if_true, Out.elim, Bool.true_and]
        refine bnd (forM_test (fun j => clockB m.1 (cl[j]?.getD 0)) (1 : Int) (by omega) fun j hj hp => ?_) ?_
        · rw [idx_nat, List.getElem?_eq_getElem hj]
          simp only [Option.bind_eq_bind, Option.bind_some, Option.getD_some]
          unfold clockB
          by_cases q1 : cl[j] < 0
          · have a1 : ¬ 0 ≤ cl[j] := by omega
            simp [q1, a1]
          · by_cases q2 : m.1 ≤ cl[j]
            · have a1 : ¬ cl[j] < m.1 := by omega
              simp [q2, a1]
            · have a1 : 0 ≤ cl[j] := by omega
              have a2 : cl[j] < m.1 := by omega
              simp [q1, q2, a1, a2]
        · rw [all_range cl (clockB m.1) _ (fun j x hx => by rw [hx]; rfl)]
          cases hc : cl.all (clockB m.1) with
          | false => simp
          | true =>
            simp only [if_true, Bool.true_and]
            refine bnd (forM_test (fun j => sizeB (sz[j]?.getD 0)) (1 : Int) (by omega) fun j hj hp => ?_) ?_
            · rw [idx_nat, List.getElem?_eq_getElem hj]
              simp only [Option.bind_eq_bind, Option.bind_some, Option.getD_some]
              unfold sizeB
              by_cases q1 : sz[j] < 0
              · have a1 : ¬ 0 ≤ sz[j] := by omega
                simp [q1, a1]
              · by_cases q2 : 16777216 < sz[j]
                · have a1 : ¬ sz[j] ≤ 16777216 := by omega
                  simp [q2, a1]
                · have a1 : 0 ≤ sz[j] := by omega
                  have a2 : sz[j] ≤ 16777216 := by omega
                  simp [q1, q2, a1, a2]
            · rw [all_range sz sizeB _ (fun j x hx => by rw [hx]; rfl)]
              cases hs : sz.all sizeB <;> simp
theorem f29_eq (m : S_api_Market) (l : List Int) (hm : m.2.2.length ≤ 20) (h1 : l.length ≤ 900) : M.f29 1000 m l = some (boughtB m.2.2.length l) := by
  unfold M.f29
  refine bnd (loopM_test (N := l.length) (fun j => (j : Int)) (okAt m.2.2.length l) (.inr false) (.inl ()) rfl (by omega) (fun j hj hp => ?_) ?_) ?_
  · rw [if_pos (by simpa using hj), idx_nat, List.getElem?_eq_getElem hj]
    simp only [Option.bind_eq_bind, Option.bind_some, f57_eq, wr_id (show -9223372036854775808 ≤ (m.2.2.length : Int) - 1 by omega) (by omega)]
    have e1 : l[j]?.getD 0 = l[j] := by rw [List.getElem?_eq_getElem hj]; rfl
    have e3 : decide (l[j] ≤ (m.2.2.length : Int) - 1) = decide (l[j] < (m.2.2.length : Int)) := by
      apply Bool.eq_iff_iff.2; simp; omega
    unfold okAt
    rw [e1, e3]
    generalize hq1 : decide (0 ≤ l[j]) = q1
    generalize hq2 : decide (l[j] < (m.2.2.length : Int)) = q2
    have ew : wr ((j : Int) + 1) = ((j + 1 : Nat) : Int) := by rw [wr_id (by omega) (by omega)]; rfl
    by_cases q3 : j = 0
    · subst q3
      have ew1 : wr 1 = 1 := wr_id (by omega) (by omega)
      cases q1 <;> cases q2 <;> simp [guardO, ew1]
    · have q3' : 0 < j := by omega
      have q4 : (0 : Int) < (j : Int) := by omega
      have e2 : wr ((j : Int) - 1) = ((j - 1 : Nat) : Int) := by rw [wr_id (by omega) (by omega)]; omega
      have hx := List.getElem?_eq_getElem (show j - 1 < l.length by omega)
      by_cases q5 : l[j] ≤ l[j - 1]
      · have q6 : ¬ l[j - 1] < l[j] := by omega
        cases q1 <;> cases q2 <;> simp [guardO, ew, e2, q3, q3', idx_nat, hx, q5, q6]
      · have q6 : l[j - 1] < l[j] := by omega
        cases q1 <;> cases q2 <;> simp [guardO, ew, e2, q3, q3', idx_nat, hx, q5, q6]
  · rw [if_neg (by simp)]
  · show (fun x_ => sumE x_ _ _) (if boughtB m.2.2.length l = true then _ else _) = _
    cases boughtB m.2.2.length l <;> rfl
end Go.Proofs.YtjlagmcdoobimaaGreat
