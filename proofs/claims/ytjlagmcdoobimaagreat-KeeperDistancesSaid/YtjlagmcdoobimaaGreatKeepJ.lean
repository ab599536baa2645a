/-
  What is proved: what the fronts of keeper are.
-/
import Derived.Test.YtjlagmcdoobimaaGreatKeepI
import Derived.Test.YtjlagmcdoobimaaGreatIsort
namespace Go.Proofs.YtjlagmcdoobimaaGreat
open Go Go.Proofs.YtjlagmcdoobimaaGreat.Wh
set_option maxRecDepth 100000

/-! ### fronts of lists of pairs -/
abbrev Pair := Vector Int 2
theorem pair_ext {p q : Pair} (h0 : p[0] = q[0]) (h1 : p[1] = q[1]) : p = q := by
  apply Vector.ext
  intro i hi
  match i, hi with
  | 0, _ => exact h0
  | 1, _ => exact h1
/-- A front of a list of pairs. -/
structure Front (L F : List Pair) : Prop where
  sub : ∀ p ∈ F, p ∈ L
  inc : F.Pairwise fun p q => p[0] < q[0] ∧ q[1] < p[1]
  dom : ∀ p ∈ L, ∃ q ∈ F, q[0] ≤ p[0] ∧ q[1] ≤ p[1]
theorem Front.one {L F : List Pair} (h : Front L F) {p q : Pair} (hp : p ∈ F) (hq : q ∈ F) (h0 : p[0] ≤ q[0]) (h1 : p[1] ≤ q[1]) : p = q := by
  obtain ⟨i, hi, rfl⟩ := List.mem_iff_getElem.1 hp
  obtain ⟨j, hj, rfl⟩ := List.mem_iff_getElem.1 hq
  have := List.pairwise_iff_getElem.1 h.inc
  rcases Nat.lt_trichotomy i j with e | e | e
  · have := this i j hi hj e; omega
  · subst e; rfl
  · have := this j i hj hi e; omega
theorem Front.mem {L F G : List Pair} (h : Front L F) (h' : Front L G) {p : Pair} (hp : p ∈ F) : p ∈ G := by
  obtain ⟨q, hq, q0, q1⟩ := h'.dom p (h.sub p hp)
  obtain ⟨r, hr, r0, r1⟩ := h.dom q (h'.sub q hq)
  have e := h.one hr hp (by omega) (by omega)
  subst e
  have : q = r := pair_ext (by omega) (by omega)
  rwa [← this]
theorem Front.nodup {L F : List Pair} (h : Front L F) : F.Nodup := h.inc.imp (fun h e => by subst e; omega)
/-- There is one front. -/
theorem Front.uniq {L F G : List Pair} (h : Front L F) (h' : Front L G) : F = G := by
  have hp : F.Perm G := (List.perm_ext_iff_of_nodup h.nodup h'.nodup).2 fun p => ⟨h.mem h', h'.mem h⟩
  exact hp.eq_of_pairwise (le := fun p q : Pair => p[0] < q[0] ∧ q[1] < p[1]) (fun a b _ _ h1 h2 => by omega) h.inc h'.inc
theorem Front.congr {L L' F : List Pair} (h : Front L F) (e : ∀ p, p ∈ L ↔ p ∈ L') : Front L' F :=
  ⟨fun p hp => (e p).1 (h.sub p hp), h.inc, fun p hp => h.dom p ((e p).2 hp)⟩
/-! ### fronts by sorting -/
def ltP (x y : Pair) : Bool := decide (x[0] < y[0]) || (x[0] == y[0] && decide (x[1] < y[1]))
/-- One more pair, behind those that are less. -/
def keep (F : List Pair) (p : Pair) : List Pair := match F.getLast? with | none => F ++ [p] | some q => if p[1] < q[1] then F ++ [p] else F
/-! ### keeper's fronts -/
/-- What the first sets pay for knowing two clocks. -/
def prs (n : Nat) (kn of : List S_api_Offer) (a b j : Nat) : List Pair := (List.range j).filterMap fun s => if WdS n kn of s a b < 1099511627776 then some #v[cS of s, WdS n kn of s a b] else none
def frontS (n : Nat) (kn of : List S_api_Offer) (a b : Nat) : List Pair := (isort ltP (prs n kn of a b (2 ^ of.length))).foldl keep []
theorem prs_succ (n : Nat) (kn of : List S_api_Offer) (a b j : Nat) : prs n kn of a b (j + 1) = prs n kn of a b j ++ (if WdS n kn of j a b < 1099511627776 then [#v[cS of j, WdS n kn of j a b]] else []) := by
  unfold prs
  rw [List.range_succ, List.filterMap_append]
  congr 1
  by_cases q : WdS n kn of j a b < 1099511627776
  · rw [List.filterMap_cons, if_pos q, if_pos q]; rfl
  · rw [List.filterMap_cons, if_neg q, if_neg q]; rfl
theorem prs_len (n : Nat) (kn of : List S_api_Offer) (a b j : Nat) : (prs n kn of a b j).length ≤ j := by
  unfold prs
  have := List.length_filterMap_le (fun s => if WdS n kn of s a b < 1099511627776 then some (#v[cS of s, WdS n kn of s a b] : Pair) else none) (List.range j)
  rwa [List.length_range] at this
/-- Lists of lists by a function. -/
def tab {α : Type} (n : Nat) (F : Nat → List α) : List (List α) := (List.range n).map F
theorem tab_len {α : Type} (n : Nat) (F : Nat → List α) : (tab n F).length = n := by simp [tab]
theorem idx_tab {α : Type} {n : Nat} {F : Nat → List α} {i : Nat} (hi : i < n) : idx (tab n F) (i : Int) = some (F i) := by
  rw [idx_nat]; simp [tab, hi]
theorem set1_tab {α : Type} {n : Nat} {F : Nat → List α} {i : Nat} {z : List α} (hi : i < n) : set1 (tab n F) (i : Int) z = some (tab n fun a => if a = i then z else F a) := by
  unfold set1
  rw [if_neg (by omega), if_pos (by rw [tab_len]; simpa using hi)]
  congr 1
  apply List.ext_getElem?
  intro q
  simp only [Int.toNat_natCast, tab, List.getElem?_set, List.length_map, List.length_range, List.getElem?_map]
  by_cases hq : i = q
  · subst hq; simp [hi]
  · rw [if_neg hq]
    by_cases hqn : q < n
    · simp [hqn, show ¬ q = i from fun e => hq e.symm]
    · simp [hqn]
theorem tab_congr {α : Type} {n : Nat} {F G : Nat → List α} (h : ∀ a, a < n → F a = G a) : tab n F = tab n G := by
  unfold tab
  apply List.map_congr_left
  intro a ha
  exact h a (by simpa using ha)
theorem keep_len (F : List Pair) (p : Pair) : (keep F p).length ≤ F.length + 1 := by
  unfold keep
  split
  · simp
  · split <;> simp
theorem keep_fold_len : ∀ (Z F : List Pair), (Z.foldl keep F).length ≤ F.length + Z.length
  | [], F => by simp
  | p :: Z, F => by
    have h1 := keep_fold_len Z (keep F p)
    have h2 := keep_len F p
    rw [List.foldl_cons, List.length_cons]
    omega
section
variable {n : Nat} {kn of : List S_api_Offer} (hm : Ok n kn of)
include hm
theorem Ok.f43 {a : Nat} (ha : a < n) : M.f43 ((n : Int), kn, of) a = some (tab n (frontS n kn of a)) := by
  have hp := hm.pow
  have h8 := hm.n8
  unfold M.f43
  have h0 : Wh.mk (n : Int) ([] : List Pair) = some (tab n (prs n kn of a · 0)) := by
    unfold Wh.mk
    rw [if_pos (by omega)]
    congr 1
    rw [Int.toNat_natCast]
    apply List.ext_getElem
    · simp [tab_len]
    · intro i h1 h2; simp [tab, prs]
  refine bnd h0 (bnd hm.shl (bnd (forS_st (fun j => tab n (prs n kn of a · j)) rfl (by omega) fun s hs => ?_) ?_))
  · refine bnd (hm.f33 hs) (bnd (hm.cost hs) ?_)
    rw [show ((tab n (prs n kn of a · s)).length : Int) = (n : Int) from by rw [tab_len]]
    refine bnd (forS_st (fun j => tab n fun b => if b < j then prs n kn of a b (s + 1) else prs n kn of a b s) (by simp) (by omega) fun b hb => ?_) ?_
    · refine bnd (idx_mat ha) (bnd (idx_row hb) ?_)
      by_cases q : WdS n kn of s a b < 1099511627776
      · rw [if_pos (by simpa using q)]
        refine bnd (bnd (idx_tab hb) (bnd (idx_mat ha) (bnd (idx_row hb) (bnd (idx_tab hb) (bnd (app_one (x := (#v[cS of s, WdS n kn of s a b] : Pair)) ?_) (bnd (idx_tab hb) (bnd (set1_tab hb) rfl))))))) ?_
        · rw [if_neg (by omega)]
          have := prs_len n kn of a b s
          omega
        · congr 1
          apply tab_congr
          intro c hc
          by_cases e : c = b
          · subst e
            rw [if_pos rfl, if_neg (by omega), if_pos (by omega), prs_succ, if_pos q]
          · rw [if_neg e]
            by_cases e2 : c < b
            · rw [if_pos e2, if_pos (by omega)]
            · rw [if_neg e2, if_neg (by omega)]
      · rw [if_neg (by simpa using q)]
        refine bnd rfl ?_
        congr 1
        apply tab_congr
        intro c hc
        by_cases e : c = b
        · subst e
          rw [if_neg (by omega), if_pos (by omega), prs_succ, if_neg q, List.append_nil]
        · by_cases e2 : c < b
          · rw [if_pos e2, if_pos (by omega)]
          · rw [if_neg e2, if_neg (by omega)]
    · congr 1
      apply tab_congr
      intro c hc
      rw [if_pos hc]
  · rw [show ((tab n (prs n kn of a · (2 ^ of.length))).length : Int) = (n : Int) from by rw [tab_len]]
    refine bnd (forS_st (fun j => tab n fun b => if b < j then frontS n kn of a b else prs n kn of a b (2 ^ of.length)) (by simp) (by omega) fun b hb => ?_) ?_
    · refine bnd (idx_tab hb) (bnd (idx_tab hb) ?_)
      rw [if_neg (Nat.lt_irrefl b)]
      have hl := prs_len n kn of a b (2 ^ of.length)
      have e : M.f66 (prs n kn of a b (2 ^ of.length)) (fun x0 x1 => M.f67 x0 x1) = some (isort ltP (prs n kn of a b (2 ^ of.length))) := by
        unfold M.f66
        rw [if_pos (by omega)]
        rfl
      refine bnd e ?_
      have hl2 : (isort ltP (prs n kn of a b (2 ^ of.length))).length ≤ 64 := by rw [(isort_perm _ _).length_eq]; omega
      have hfs : frontS n kn of a b = (isort ltP (prs n kn of a b (2 ^ of.length))).foldl keep [] := rfl
      generalize isort ltP (prs n kn of a b (2 ^ of.length)) = Z at *
      refine bnd (forS_st (fun j => (Z.take j).foldl keep []) rfl (by omega) fun j hj => ?_) ?_
      · have hx := List.getElem?_eq_getElem hj
        rw [take_foldl hx, idx_nat, hx]
        have hlen := keep_fold_len (Z.take j) []
        have hlt : (Z.take j).length ≤ 64 := by rw [List.length_take]; omega
        simp only [List.length_nil] at hlen
        generalize (Z.take j).foldl keep [] = F at *
        generalize Z[j] = p
        simp only [Option.bind_eq_bind, Option.bind_some]
        unfold keep
        cases hF : F.getLast? with
        | none =>
          have e : F = [] := List.getLast?_eq_none_iff.1 hF
          subst e
          rfl
        | some q =>
          have hne : F ≠ [] := fun e => by subst e; cases hF
          have hpos : 0 < F.length := List.length_pos_iff.2 hne
          have e0 : ((F.length : Int) == 0) = false := by simp; omega
          have e1 : wr ((F.length : Int) - 1) = ((F.length - 1 : Nat) : Int) := by rw [wr_id (by omega) (by omega)]; omega
          have e2 : F[F.length - 1]? = some q := by rw [← List.getLast?_eq_getElem?]; exact hF
          have e3 : ∀ z : Pair, idxA z 1 = some z[1] := fun z => by simp [idxA, idx]
          simp only [e0, Bool.not_false, guardO, e1, idx_nat, e2, e3, Option.bind_some, Bool.false_or]
          by_cases c : p[1] < q[1]
          · rw [if_pos (by simpa using c), if_pos c]
            exact bnd (bnd (app_one (by omega)) rfl) rfl
          · rw [if_neg (by simpa using c), if_neg c]
            rfl
      · rw [List.take_length]
        refine bnd (idx_tab hb) (bnd (set1_tab hb) ?_)
        congr 1
        apply tab_congr
        intro c hc
        by_cases e : c = b
        · subst e
          rw [if_pos rfl, if_pos (by omega), hfs]
        · rw [if_neg e]
          by_cases e2 : c < b
          · rw [if_pos e2, if_pos (by omega)]
          · rw [if_neg e2, if_neg (by omega)]
    · congr 1
      apply tab_congr
      intro c hc
      rw [if_pos hc]
theorem Ok.f17 {a : Nat} (ha : a < n) (hc : codeQ ((n : Int), kn, of) [] [(a : Int)] [] = 0) : M.f17 ((n : Int), kn, of) a = some (tab n (frontS n kn of a), 0) := by
  unfold M.f17
  refine bnd (f32_eqQ _ _ _ _ (by simp) (by simp) (by simp)) ?_
  rw [hc, if_neg (by decide)]
  exact bnd (hm.f43 ha) rfl
end
end Go.Proofs.YtjlagmcdoobimaaGreat
