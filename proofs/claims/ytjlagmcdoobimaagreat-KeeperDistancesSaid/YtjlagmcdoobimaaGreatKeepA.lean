/-
  What is proved: on valid markets the widths of keeper and of the specification are the same table; the checks agree.
  on valid markets the widths of keeper and of the specification are the same table.
  on valid markets the widths of keeper and of the specification are the same table.
  keeper.widths and the specification's widths are one table, on valid markets.
  what is within reach, what is needed, and the least widths: keeper and the specification agree.
  prices: keeper and the specification agree.
-/
import Derived.Test.YtjlagmcdoobimaaGreatModelC
import Derived.Test.YtjlagmcdoobimaaGreatPlain
import Derived.KernelRfl
namespace Go.Proofs.YtjlagmcdoobimaaGreat
open Go Go.Proofs.YtjlagmcdoobimaaGreat.Wh


/-! ### validity -/
def okB (n : Int) (c : Int) (o : S_api_Offer) : Bool := decide (0 ≤ o.1) && decide (o.1 < n) && decide (0 ≤ o.2.1) && decide (o.2.1 < n) && (o.1 != o.2.1) && decide (0 ≤ o.2.2.2) && decide (o.2.2.2 ≤ 1048576) && decide (0 ≤ o.2.2.1) && decide (o.2.2.1 ≤ c)
theorem f55_eq (o : S_api_Offer) (n c : Int) : M.f55 o n c = some (okB n c o) := rfl
theorem f57_eq (x a b : Int) : M.f57 x a b = some (decide (a ≤ x) && decide (x ≤ b)) := rfl
theorem guardO_bool (G v : Bool) : guardO G (some v) = some (G && v) := by cases G <;> rfl
theorem f58_eq (o : S_api_Offer) (n c : Int) (h1 : 2 ≤ n) (h2 : n ≤ 8) : M.f58 o n c = some (okB n c o) := by
  have hw : wr (n - 1) = n - 1 := wr_id (by omega) (by omega)
  have e : ∀ x : Int, decide (x ≤ n - 1) = decide (x < n) := fun x => by apply Bool.eq_iff_iff.2; simp; omega
  unfold M.f58 okB
  simp only [f57_eq, hw, e, Option.bind_eq_bind, Option.bind_some, guardO_bool]
  congr 1
  generalize decide (0 ≤ o.1) = a1, decide (o.1 < n) = a2, decide (0 ≤ o.2.1) = a3, decide (o.2.1 < n) = a4, (o.1 != o.2.1) = a5, decide (0 ≤ o.2.2.2) = a6, decide (o.2.2.2 ≤ 1048576) = a7, decide (0 ≤ o.2.2.1) = a8, decide (o.2.2.1 ≤ c) = a9
  revert a1 a2 a3 a4 a5 a6 a7 a8 a9
  decide
theorem all_take {α : Type} {xs : List α} {q : α → Bool} {j : Nat} {x : α} (h : xs[j]? = some x) : (xs.take (j + 1)).all q = ((xs.take j).all q && q x) := by
  rw [List.take_add_one, List.all_append, h]
  simp
/-- A loop that leaves at the first that is not so. -/
theorem forM_all {α ρ : Type} (xs : List α) (hx : xs.length ≤ 4294967296) (q : α → Bool) (r : ρ) (f : Int → Unit → Option (Out Unit ρ)) (h : ∀ (i : Nat) (x : α), xs[i]? = some x → f (i : Int) () = some (if q x = true then .again () else .leave r)) :
    forM 0 (xs.length : Int) () f = some (if xs.all q = true then .again () else .leave r) := by
  obtain ⟨o, h1, h2⟩ := forM_inv (f := f) (fun j (_ : Unit) => (xs.take j).all q = true) (fun r' => r' = r ∧ xs.all q = false) hx (s := ()) (by simp) fun j s hj hs => by
    have hx' := List.getElem?_eq_getElem hj
    refine ⟨_, h j xs[j] hx', ?_⟩
    cases hq : q xs[j] with
    | true =>
      simp only [if_true, OutP]
      rw [all_take hx', hs, hq]; rfl
    | false =>
      simp only [Bool.false_eq_true, if_false, OutP, true_and]
      rw [List.all_eq_false]
      exact ⟨xs[j], by simp, by simp [hq]⟩
  rw [h1]
  cases o with
  | again s =>
    simp only [OutP, List.take_length] at h2
    rw [if_pos h2]
  | leave r' =>
    obtain ⟨rfl, h3⟩ := h2
    rw [h3]; rfl
theorem loopM_all {α ρ : Type} (xs : List α) (q : α → Bool) (r d : ρ) (fuel : Nat) (hf : xs.length < fuel) (f : Int → Option (Out Int ρ)) (h : ∀ (i : Nat) (x : α), xs[i]? = some x → f (i : Int) = some (if q x = true then .again ((i + 1 : Nat) : Int) else .leave r)) (he : f (xs.length : Int) = some (.leave d)) :
    loopM f fuel 0 = some (if xs.all q = true then d else r) := by
  obtain ⟨r', h1, h2⟩ := loopM_inv (f := f) (fun m s => m ≤ xs.length ∧ s = ((xs.length - m : Nat) : Int) ∧ (xs.take (xs.length - m)).all q = true) (fun r' => r' = if xs.all q = true then d else r) fuel xs.length 0 hf ⟨Nat.le_refl _, by simp, by simp⟩ fun m s ⟨hm, hs, ha⟩ => by
    subst hs
    cases m with
    | zero =>
      refine ⟨_, he, ?_⟩
      simp only [Nat.sub_zero, List.take_length] at ha
      simp [OutP, ha]
    | succ m =>
      have hj : xs.length - (m + 1) < xs.length := by omega
      have hx' := List.getElem?_eq_getElem hj
      refine ⟨_, h _ _ hx', ?_⟩
      cases hq : q xs[xs.length - (m + 1)] with
      | true =>
        simp only [if_true, OutP]
        refine ⟨m, by omega, by omega, ?_, ?_⟩
        · rw [show xs.length - (m + 1) + 1 = xs.length - m from by omega]
        · rw [show xs.length - m = (xs.length - (m + 1)) + 1 from by omega, all_take hx', ha, hq]; rfl
      | false =>
        simp only [Bool.false_eq_true, if_false, OutP]
        rw [if_neg]
        rw [Bool.not_eq_true, List.all_eq_false]
        exact ⟨_, List.getElem_mem hj, by simp [hq]⟩
  rw [h1, h2]
def validB (m : S_api_Market) : Bool := decide (2 ≤ m.1) && decide (m.1 ≤ 8) && decide (m.2.1.length ≤ 24) && decide (m.2.2.length ≤ 12) && m.2.1.all (okB m.1 0) && m.2.2.all (okB m.1 10000)
theorem f25_eq (m : S_api_Market) : M.f25 m = some (if validB m = true then 0 else 80) := by
  unfold M.f25
  split
  · rename_i h
    rw [if_neg]
    unfold validB
    intro hv
    simp at h hv
    omega
  · rename_i h
    have hk : m.2.1.length ≤ 24 := by simp at h; omega
    have ho : m.2.2.length ≤ 12 := by simp at h; omega
    have hv : validB m = (m.2.1.all (okB m.1 0) && m.2.2.all (okB m.1 10000)) := by
      unfold validB
      simp at h
      have h1 : decide (2 ≤ m.1) = true := by simp; omega
      have h2 : decide (m.1 ≤ 8) = true := by simp; omega
      have h3 : decide (m.2.1.length ≤ 24) = true := by simp; omega
      have h4 : decide (m.2.2.length ≤ 12) = true := by simp; omega
      rw [h1, h2, h3, h4]; simp
    rw [forM_all m.2.1 (by omega) (okB m.1 0) (80 : Int) _ (fun i x hx => by rw [idx_nat, hx]; simp [f55_eq]; cases okB m.1 0 x <;> rfl)]
    rw [hv]
    cases h5 : m.2.1.all (okB m.1 0) with
    | false => simp [Out.elim]
    | true =>
      simp only [if_true, Option.bind_eq_bind, Option.bind_some, Out.elim, Bool.true_and]
      rw [forM_all m.2.2 (by omega) (okB m.1 10000) (80 : Int) _ (fun i x hx => by rw [idx_nat, hx]; simp [f55_eq]; cases okB m.1 10000 x <;> rfl)]
      cases h6 : m.2.2.all (okB m.1 10000) <;> simp
theorem f28_eq (m : S_api_Market) : M.f28 1000 m = some (if validB m = true then 0 else 80) := by
  unfold M.f28
  simp only [f57_eq, Option.bind_eq_bind, Option.bind_some]
  split
  · rename_i h
    rw [if_neg]
    unfold validB
    intro hv
    simp at h hv
    omega
  · rename_i h
    have h1 : 2 ≤ m.1 := by simp at h; omega
    have h2 : m.1 ≤ 8 := by simp at h; omega
    have hk : m.2.1.length ≤ 24 := by simp at h; omega
    have ho : m.2.2.length ≤ 12 := by simp at h; omega
    have hv : validB m = (m.2.1.all (okB m.1 0) && m.2.2.all (okB m.1 10000)) := by
      unfold validB
      have h1 : decide (2 ≤ m.1) = true := by simp; omega
      have h2 : decide (m.1 ≤ 8) = true := by simp; omega
      have h3 : decide (m.2.1.length ≤ 24) = true := by simp; omega
      have h4 : decide (m.2.2.length ≤ 12) = true := by simp; omega
      rw [h1, h2, h3, h4]; simp
    have step : ∀ (c : Int) (xs : List S_api_Offer) (hl : xs.length ≤ 24) (i : Nat) (x : S_api_Offer), xs[i]? = some x →
        (if decide ((i : Int) < (xs.length : Int)) = true then (idx xs (i : Int)).bind fun v => (M.f58 v m.1 c).bind fun b => if (!b) = true then some (.leave (.inr 80)) else some (.again (wr ((i : Int) + 1))) else some (.leave (.inl ()))) =
          some (if okB m.1 c x = true then (.again ((i + 1 : Nat) : Int) : Out Int (Unit ⊕ Int)) else .leave (.inr 80)) := by
      intro c xs hl i x hx
      have hi := (List.getElem?_eq_some_iff.1 hx).1
      rw [if_pos (by simpa using hi), idx_nat, hx]
      simp only [Option.bind_some, f58_eq x m.1 c h1 h2]
      cases okB m.1 c x with
      | false => rfl
      | true =>
        rw [wr_id (by omega) (by omega)]
        rfl
    have he : ∀ (xs : List S_api_Offer) (k : Option (Out Int (Unit ⊕ Int))), (if decide ((xs.length : Int) < (xs.length : Int)) = true then k else some (.leave (.inl ()))) = some (.leave (.inl ())) := fun xs k => by
      rw [if_neg (by simp)]
    rw [loopM_all m.2.1 (okB m.1 0) (.inr 80) (.inl ()) 1000 (by omega) _ (step 0 m.2.1 hk) (he _ _), hv]
    cases h5 : m.2.1.all (okB m.1 0) with
    | false => rfl
    | true =>
      simp only [if_true, Option.bind_some, sumE, Bool.true_and]
      rw [loopM_all m.2.2 (okB m.1 10000) (.inr 80) (.inl ()) 1000 (by omega) _ (step 10000 m.2.2 (by omega)) (he _ _)]
      cases h6 : m.2.2.all (okB m.1 10000) <;> rfl
/-- The code that both give for a market, two clocks and a number. -/
def code (m : S_api_Market) (a b w : Int) : Int := if validB m = true then (if 0 ≤ a ∧ a < m.1 ∧ 0 ≤ b ∧ b < m.1 ∧ 0 ≤ w ∧ w ≤ 16777216 then 0 else 1) else 80
end Go.Proofs.YtjlagmcdoobimaaGreat

namespace Go.Proofs.YtjlagmcdoobimaaGreat
open Go Go.Proofs.YtjlagmcdoobimaaGreat.Wh

/-! ### lists of offers by bits -/
def sel (k s : Nat) : List Nat := (List.range k).filter fun i => s.testBit i
def cst (l : List Nat) : List Int := l.map fun (i : Nat) => (i : Int)
theorem sel_succ (k s : Nat) : sel (k + 1) s = if s.testBit k = true then sel k s ++ [k] else sel k s := by
  unfold sel
  rw [List.range_succ, List.filter_append]
  cases h : s.testBit k <;> simp [h]
theorem sel_len (k s : Nat) : (sel k s).length ≤ k := by
  have := List.length_filter_le (fun i => s.testBit i) (List.range k)
  rwa [List.length_range] at this
theorem sel_lt {k s i : Nat} (h : i ∈ sel k s) : i < k := by
  unfold sel at h
  simp at h
  exact h.1
theorem sel_up {k s : Nat} (hs : s < 2 ^ k) : ∀ d, sel (k + d) s = sel k s
  | 0 => rfl
  | d + 1 => by
    rw [show k + (d + 1) = (k + d) + 1 from rfl, sel_succ, sel_up hs d]
    have : s.testBit (k + d) = false := Nat.testBit_lt_two_pow (Nat.lt_of_lt_of_le hs (Nat.pow_le_pow_right (by decide) (by omega)))
    rw [this]; rfl
theorem sel_12 {k s : Nat} (hk : k ≤ 12) (hs : s < 2 ^ k) : sel 12 s = sel k s := by
  have := sel_up hs (12 - k)
  rwa [show k + (12 - k) = 12 from by omega] at this
theorem app_cst {l : List Nat} {k : Nat} (h : l.length ≤ 4096) : app (cst l) [(k : Int)] = some (cst (l ++ [k])) := by
  unfold app
  rw [if_pos (by simp [cst]; omega)]
  simp [cst]
theorem f65_eq (s : Nat) : M.f65 (s : Int) = some (cst (sel 12 s)) := by
  unfold M.f65
  obtain ⟨l, h1, rfl⟩ := forS_inv (N := 12) (s := ([] : List Int)) (f := fun i_1 s_3 => (shr (s : Int) i_1) >>= fun v_8 => (if ((band v_8 1) == 1) = true then ((app s_3 ([i_1] : List Int)) >>= fun z_13 => some z_13) else (some s_3)) >>= fun y_11 => some y_11)
    (fun j l => l = cst (sel j s)) (by decide) rfl fun j l hj hl => by
      subst hl
      have hl := sel_len j s
      refine ⟨_, ?_, rfl⟩
      simp only [shr_nat (show j ≤ 64 by omega), Option.bind_eq_bind, Option.bind_some, bit_of, sel_succ]
      cases s.testBit j with
      | false => rfl
      | true => simp only [if_true]; rw [app_cst (by omega)]; rfl
  exact bnd h1 rfl
end Go.Proofs.YtjlagmcdoobimaaGreat

namespace Go.Proofs.YtjlagmcdoobimaaGreat
open Go Go.Proofs.YtjlagmcdoobimaaGreat.Wh

/-! ### the comparisons behind buying -/
def picks (of : List S_api_Offer) (l : List Nat) : List S_api_Offer := l.filterMap fun i => of[i]?
theorem picks_len (of : List S_api_Offer) (l : List Nat) : (picks of l).length ≤ l.length := List.length_filterMap_le _ _
theorem picks_take {of : List S_api_Offer} {l : List Nat} {j i : Nat} {o : S_api_Offer} (h : l[j]? = some i) (ho : of[i]? = some o) : picks of (l.take (j + 1)) = picks of (l.take j) ++ [o] := by
  unfold picks
  rw [List.take_add_one, List.filterMap_append, h]
  simp [ho]
theorem cst_get {l : List Nat} {j i : Nat} (h : l[j]? = some i) : idx (cst l) (j : Int) = some (i : Int) := by
  rw [idx_nat]
  simp [cst, h]
theorem cst_length (l : List Nat) : (cst l).length = l.length := by simp [cst]
theorem app_one {α : Type} {xs : List α} {x : α} (h : xs.length ≤ 4096) : app xs [x] = some (xs ++ [x]) := by
  unfold app
  rw [if_pos (by simp; omega)]
theorem pick_at {of : List S_api_Offer} {l : List Nat} (hl : ∀ i ∈ l, i < of.length) {j : Nat} (hj : j < l.length) : ∃ i o, l[j]? = some i ∧ of[i]? = some o := by
  have := hl l[j] (by simp)
  exact ⟨l[j], of[l[j]], List.getElem?_eq_getElem hj, List.getElem?_eq_getElem this⟩
/-! ### what offers cost -/
def costF (of : List S_api_Offer) (l : List Nat) : Int := (picks of l).foldl (fun c o => wr (c + o.2.2.1)) 0
theorem costF_take {of : List S_api_Offer} {l : List Nat} {j i : Nat} {o : S_api_Offer} (h : l[j]? = some i) (ho : of[i]? = some o) : costF of (l.take (j + 1)) = wr (costF of (l.take j) + o.2.2.1) := by
  unfold costF
  rw [picks_take h ho, List.foldl_append]
  rfl
theorem f53_eq (n : Int) (kn of : List S_api_Offer) (s : Nat) (hl : ∀ i ∈ sel 12 s, i < of.length) : M.f53 (s : Int) (n, kn, of) = some (costF of (sel 12 s)) := by
  unfold M.f53
  refine bnd (f65_eq s) ?_
  have hn := sel_len 12 s
  have hcl := cst_length (sel 12 s)
  rw [show ((cst (sel 12 s)).length : Int) = ((sel 12 s).length : Int) from by rw [hcl]]
  obtain ⟨r, h1, h2⟩ := forS_inv (N := (sel 12 s).length) (s := (0 : Int)) (f := fun i_3 s_5 => (idx (cst (sel 12 s)) i_3) >>= fun v_9 => (idx of v_9) >>= fun v_11 => some (wr (s_5 + v_11.2.2.1)))
    (fun j c => c = costF of ((sel 12 s).take j)) (by omega) rfl fun j c hj hc => by
      subst hc
      obtain ⟨i, o, hi, ho⟩ := pick_at hl hj
      exact ⟨_, by simp only [cst_get hi, Option.bind_eq_bind, Option.bind_some, idx_nat, ho], (costF_take hi ho).symm⟩
  rw [List.take_length] at h2
  subst h2
  exact bnd h1 rfl
/-! ### tables -/
structure OkC (n : Nat) (o : S_api_Offer) : Prop where
  a : ∃ k : Nat, o.1 = (k : Int) ∧ k < n
  b : ∃ k : Nat, o.2.1 = (k : Int) ∧ k < n
  ne : o.1 ≠ o.2.1
theorem okC_of {n : Nat} {c : Int} {o : S_api_Offer} (h : okB (n : Int) c o = true) : OkC n o := by
  unfold okB at h
  simp at h
  obtain ⟨⟨⟨⟨⟨⟨⟨⟨h1, h2⟩, h3⟩, h4⟩, h5⟩, h6⟩, h7⟩, h8⟩, h9⟩ := h
  exact ⟨⟨o.1.toNat, by omega, by omega⟩, ⟨o.2.1.toNat, by omega, by omega⟩, h5⟩
def stepK (F : Nat → Nat → Int) (o : S_api_Offer) : Nat → Nat → Int :=
  updM (updM F o.1.toNat o.2.1.toNat (imin (F o.1.toNat o.2.1.toNat) o.2.2.2)) o.2.1.toNat o.1.toNat (imin (F o.1.toNat o.2.1.toNat) o.2.2.2)
def diag (F : Nat → Nat → Int) : Nat → Nat → Int := fun a b => if a = b then 0 else F a b
def far0 : Nat → Nat → Int := fun _ _ => 1099511627776
def relax (c a b : Nat) (F : Nat → Nat → Int) : Nat → Nat → Int := if wr (F a c + F c b) < F a b then updM F a b (wr (F a c + F c b)) else F
def fw (n : Nat) (F : Nat → Nat → Int) : Nat → Nat → Int := itr (fun c F => itr (fun a F => itr (fun b F => relax c a b F) n F) n F) n F
/-- The widths behind buying. -/
def Wd (n : Nat) (cs : List S_api_Offer) : Nat → Nat → Int := fw n (diag (cs.foldl stepK far0))
end Go.Proofs.YtjlagmcdoobimaaGreat

namespace Go.Proofs.YtjlagmcdoobimaaGreat
open Go Go.Proofs.YtjlagmcdoobimaaGreat.Wh

theorem small {p : Nat → Prop} (h : p 2 ∧ p 3 ∧ p 4 ∧ p 5 ∧ p 6 ∧ p 7 ∧ p 8) {n : Nat} (h1 : 2 ≤ n) (h2 : n ≤ 8) : p n := by
  obtain ⟨a, b, c, d, e, f, g⟩ := h
  have : n = 2 ∨ n = 3 ∨ n = 4 ∨ n = 5 ∨ n = 6 ∨ n = 7 ∨ n = 8 := by omega
  rcases this with rfl | rfl | rfl | rfl | rfl | rfl | rfl <;> assumption
theorem f46_eq {n : Nat} (h1 : 2 ≤ n) (h2 : n ≤ 8) : M.f46 (n : Int) = some (mat n far0) :=
  small (p := fun n => M.f46 (n : Int) = some (mat n far0)) (by refine ⟨?_, ?_, ?_, ?_, ?_, ?_, ?_⟩ <;> kernel_rfl) h1 h2
theorem f73_eq (kn : List S_api_Offer) (hk : kn.length ≤ 24) : M.f73 kn = some kn := by
  unfold M.f73
  rw [if_pos (by omega)]
theorem take_foldl {α β : Type} {f : β → α → β} {xs : List α} {j : Nat} {x : α} {b : β} (h : xs[j]? = some x) : (xs.take (j + 1)).foldl f b = f ((xs.take j).foldl f b) x := by
  rw [List.take_add_one, h, List.foldl_append]
  rfl
theorem f54_eq {n : Nat} {kn of : List S_api_Offer} {s : Nat} (h1 : 2 ≤ n) (h2 : n ≤ 8) (hk : kn.length ≤ 24) (hl : ∀ i ∈ sel 12 s, i < of.length) (hok : ∀ o ∈ kn ++ picks of (sel 12 s), OkC n o) :
    M.f54 ((n : Int), kn, of) (s : Int) = some (mat n ((kn ++ picks of (sel 12 s)).foldl stepK far0)) := by
  have hn := sel_len 12 s
  have hp := picks_len of (sel 12 s)
  unfold M.f54
  refine bnd (f46_eq h1 h2) (bnd (f73_eq kn hk) (bnd (f65_eq s) ?_))
  have hcl := cst_length (sel 12 s)
  rw [show ((cst (sel 12 s)).length : Int) = ((sel 12 s).length : Int) from by rw [hcl]]
  obtain ⟨r, e1, e2⟩ := forS_inv (N := (sel 12 s).length) (s := kn) (f := fun i_11 s_13 => (idx (cst (sel 12 s)) i_11) >>= fun v_18 => (idx of v_18) >>= fun v_20 => (app s_13 ([v_20] : List S_api_Offer)) >>= fun z_22 => some z_22)
    (fun j l => l = kn ++ picks of ((sel 12 s).take j)) (by omega) (by simp [picks]) fun j l hj hc => by
      subst hc
      obtain ⟨i, o, hi, ho⟩ := pick_at hl hj
      have hlen := picks_len of ((sel 12 s).take j)
      rw [List.length_take] at hlen
      refine ⟨_, ?_, rfl⟩
      simp only [cst_get hi, Option.bind_eq_bind, Option.bind_some, idx_nat, ho]
      rw [app_one (by rw [List.length_append]; omega), picks_take hi ho]
      simp
  rw [List.take_length] at e2
  subst e2
  refine bnd e1 ?_
  generalize hcs : kn ++ picks of (sel 12 s) = cs at *
  have hcsl : cs.length ≤ 36 := by rw [← hcs, List.length_append]; omega
  obtain ⟨r, e3, e4⟩ := forS_inv (N := cs.length) (s := mat n far0) (f := fun i_25 s_27 => (idx cs i_25) >>= fun v_31 => (idx s_27 v_31.1) >>= fun v_33 => (idx v_33 v_31.2.1) >>= fun v_35 => (idx s_27 v_31.1) >>= fun v_37 => (idx s_27 v_31.2.1) >>= fun v_39 => (idx v_37 v_31.2.1) >>= fun v_41 => (set2 s_27 v_31.1 v_31.2.1 (imin v_35 v_31.2.2.2)) >>= fun z_43 => (idx v_39 v_31.1) >>= fun v_45 => (set2 z_43 v_31.2.1 v_31.1 (imin v_35 v_31.2.2.2)) >>= fun z_47 => some z_47)
    (fun j T => T = mat n ((cs.take j).foldl stepK far0)) (by omega) rfl fun j T hj hT => by
      subst hT
      have hx := List.getElem?_eq_getElem hj
      obtain ⟨⟨x, hx1, hx2⟩, ⟨y, hy1, hy2⟩, _⟩ := hok cs[j] (by simp)
      refine ⟨_, ?_, rfl⟩
      rw [take_foldl hx, idx_nat, hx]
      generalize (cs.take j).foldl stepK far0 = F
      generalize cs[j] = o at *
      obtain ⟨oa, ob, oc, ow⟩ := o
      have hx1 : oa = (x : Int) := hx1
      have hy1 : ob = (y : Int) := hy1
      subst hx1; subst hy1
      simp only [Option.bind_eq_bind, Option.bind_some, idx_mat hx2, idx_mat hy2, idx_row hx2, idx_row hy2, set2_mat hx2 hy2, set2_mat hy2 hx2, stepK, Int.toNat_natCast]
  rw [List.take_length] at e4
  subst e4
  exact bnd e3 rfl
theorem itr_diag (n : Nat) (F : Nat → Nat → Int) : ∀ k, itr (fun c G => updM G c c 0) k F = fun a b => if a = b ∧ a < k then 0 else F a b
  | 0 => by funext a b; simp [itr]
  | k + 1 => by
    simp only [itr]
    rw [itr_diag n F k]
    funext a b
    unfold updM
    by_cases h : a = k ∧ b = k
    · obtain ⟨rfl, rfl⟩ := h; simp
    · rw [if_neg h]
      show (if a = b ∧ a < k then 0 else F a b) = _
      by_cases h2 : a = b ∧ a < k
      · rw [if_pos h2, if_pos (by omega)]
      · rw [if_neg h2, if_neg (by omega)]
theorem f33_eq {n : Nat} {kn of : List S_api_Offer} {s : Nat} (h1 : 2 ≤ n) (h2 : n ≤ 8) (hk : kn.length ≤ 24) (hl : ∀ i ∈ sel 12 s, i < of.length) (hok : ∀ o ∈ kn ++ picks of (sel 12 s), OkC n o) :
    M.f33 ((n : Int), kn, of) (s : Int) = some (mat n (Wd n (kn ++ picks of (sel 12 s)))) := by
  unfold M.f33
  refine bnd (f54_eq h1 h2 hk hl hok) ?_
  generalize (kn ++ picks of (sel 12 s)) = cs
  refine bnd (forS_map (fun c G => updM G c c 0) (mat n) (by omega) fun j F hj => by
    simp only [Option.bind_eq_bind, Option.bind_some, idx_mat hj, idx_row hj, set2_mat hj hj]) ?_
  rw [itr_diag n]
  rw [mat_congr (G := diag (cs.foldl stepK far0)) (fun a b ha hb => by unfold diag; by_cases h : a = b <;> simp [h, hb])]
  refine bnd (forS_map (fun c F => itr (fun a F => itr (fun b F => relax c a b F) n F) n F) (mat n) (by omega) fun c F hc => ?_) rfl
  refine bnd (forS_map (fun a F => itr (fun b F => relax c a b F) n F) (mat n) (by omega) fun a F ha => ?_) rfl
  refine bnd (forS_map (fun b F => relax c a b F) (mat n) (by omega) fun b F hb => ?_) rfl
  simp only [Option.bind_eq_bind, Option.bind_some, idx_mat hc, idx_mat ha, idx_row hb, idx_row hc, set2_mat ha hb, relax]
  by_cases hq : wr (F a c + F c b) < F a b <;> simp [hq]
end Go.Proofs.YtjlagmcdoobimaaGreat

namespace Go.Proofs.YtjlagmcdoobimaaGreat
open Go Go.Proofs.YtjlagmcdoobimaaGreat.Wh

/-- A valid market of few offers. -/
structure Ok (n : Nat) (kn of : List S_api_Offer) : Prop where
  n2 : 2 ≤ n
  n8 : n ≤ 8
  lk : kn.length ≤ 24
  lo : of.length ≤ 6
  k : ∀ o ∈ kn, okB (n : Int) 0 o = true
  o : ∀ o ∈ of, okB (n : Int) 10000 o = true
theorem ok_of {m : S_api_Market} (hv : validB m = true) (hf : m.2.2.length ≤ 6) : ∃ n : Nat, m.1 = (n : Int) ∧ Ok n m.2.1 m.2.2 := by
  unfold validB at hv
  simp only [Bool.and_eq_true, decide_eq_true_eq, List.all_eq_true] at hv
  obtain ⟨⟨⟨⟨⟨h1, h2⟩, h3⟩, h4⟩, h5⟩, h6⟩ := hv
  refine ⟨m.1.toNat, by omega, by omega, by omega, h3, hf, ?_, ?_⟩
  · rw [show ((m.1.toNat : Nat) : Int) = m.1 from by omega]; exact h5
  · rw [show ((m.1.toNat : Nat) : Int) = m.1 from by omega]; exact h6
theorem Ok.pos {n : Nat} {kn of : List S_api_Offer} (_ : Ok n kn of) : 0 < 2 ^ of.length := Nat.pow_pos (by decide)
section
variable {n : Nat} {kn of : List S_api_Offer} (hm : Ok n kn of)
include hm
theorem Ok.selE {s : Nat} (hs : s < 2 ^ of.length) : sel 12 s = sel of.length s := sel_12 (by have := hm.lo; omega) hs
theorem Ok.okC {l : List Nat} : ∀ o ∈ kn ++ picks of l, OkC n o := by
  intro o ho
  rcases List.mem_append.1 ho with ho | ho
  · exact okC_of (hm.k o ho)
  · unfold picks at ho
    obtain ⟨i, _, hi⟩ := List.mem_filterMap.1 ho
    exact okC_of (hm.o o (List.mem_of_getElem? hi))
/-- The width of two clocks behind buying offers by bits. -/
def WdS (n : Nat) (kn of : List S_api_Offer) (s : Nat) : Nat → Nat → Int := Wd n (kn ++ picks of (sel of.length s))
theorem Ok.f33 {s : Nat} (hs : s < 2 ^ of.length) : M.f33 ((n : Int), kn, of) (s : Int) = some (mat n (WdS n kn of s)) := by
  unfold WdS
  rw [← hm.selE hs]
  exact f33_eq hm.n2 hm.n8 hm.lk (by rw [hm.selE hs]; intro i hi; exact sel_lt hi) hm.okC
theorem Ok.f63 {s a b : Nat} (hs : s < 2 ^ of.length) (ha : a < n) (hb : b < n) (w : Int) : M.f63 (s : Int) ((n : Int), kn, of) (a : Int) (b : Int) w = some (decide (WdS n kn of s a b ≤ w)) := by
  unfold M.f63
  refine bnd (hm.f33 hs) (bnd (idx_mat ha) (bnd (idx_row hb) rfl))
theorem Ok.f53 {s : Nat} (hs : s < 2 ^ of.length) : M.f53 (s : Int) ((n : Int), kn, of) = some (costF of (sel of.length s)) := by
  rw [← hm.selE hs]
  exact f53_eq _ _ _ _ (by rw [hm.selE hs]; intro i hi; exact sel_lt hi)
theorem Ok.pow : 2 ^ of.length ≤ 64 := Nat.le_trans (Nat.pow_le_pow_right (by decide) hm.lo) (by decide)
theorem Ok.f52 : M.f52 ((n : Int), kn, of) = some ((2 ^ of.length - 1 : Nat) : Int) := by
  have := hm.pow; have h0 := hm.pos
  unfold M.f52
  refine bnd (shl_one (by show of.length ≤ 62; have := hm.lo; omega)) ?_
  generalize 2 ^ of.length = q at *
  rw [wr_id (by omega) (by omega)]
  congr 1; omega
theorem Ok.shl : shl 1 (of.length : Int) = some ((2 ^ of.length : Nat) : Int) := shl_one (by have := hm.lo; omega)
end
section
variable {n : Nat} {kn of : List S_api_Offer} (hm : Ok n kn of)
include hm
/-! ### the least widths -/
end
end Go.Proofs.YtjlagmcdoobimaaGreat

namespace Go.Proofs.YtjlagmcdoobimaaGreat
open Go Go.Proofs.YtjlagmcdoobimaaGreat.Wh

theorem f69_eq (x y : Int) : M.f69 x y = some (if x < y then -1 else if y < x then 1 else 0) := by
  have h : ∀ z, M.f87 z = some false := fun z => by unfold M.f87; simp
  unfold M.f69
  simp only [h, Option.bind_eq_bind, Option.bind_some, Bool.false_eq_true, if_false, decide_eq_true_eq]
  split
  · rfl
  · split <;> rfl
section
variable {n : Nat} {kn of : List S_api_Offer} (hm : Ok n kn of)
include hm
end
end Go.Proofs.YtjlagmcdoobimaaGreat
