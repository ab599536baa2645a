/-
  What is proved: the specification's fronts are those of keeper.
-/
import Derived.Test.YtkbilbeaedocjaaKeepK
import Derived.Test.YtkbilbeaedocjaaModelG
import Derived.Test.YtkbilbeaedocjaaModelH
namespace Go.Proofs.Ytkbilbeaedocjaa
open Go Go.Proofs.Ytkbilbeaedocjaa.Wh
set_option maxRecDepth 100000

/-! ### a pair more in a front -/
def leP (q p : Pair) : Bool := decide (q[0] ≤ p[0]) && decide (q[1] ≤ p[1])
theorem leP_iff {q p : Pair} : leP q p = true ↔ q[0] ≤ p[0] ∧ q[1] ≤ p[1] := by unfold leP; simp
def putStep (p : Pair) (s : Bool × List Pair) (q : Pair) : Bool × List Pair :=
  if leP p q = true then s else if (!s.1 && decide (p[0] < q[0])) = true then (true, s.2 ++ [p] ++ [q]) else (s.1, s.2 ++ [q])
def putR (F : List Pair) (p : Pair) : List Pair := if (F.any fun q => leP q p) = true then F else if (F.foldl (putStep p) (false, [])).1 = true then (F.foldl (putStep p) (false, [])).2 else (F.foldl (putStep p) (false, [])).2 ++ [p]
/-- One before the other in a front. -/
def Inc (p q : Pair) : Prop := p[0] < q[0] ∧ q[1] < p[1]
structure PutI (p : Pair) (H : List Pair) (s : Bool × List Pair) : Prop where
  inc : s.2.Pairwise Inc
  ahead : ∀ x ∈ s.2, x ≠ p → ∀ q ∈ H, Inc x q
  yes : s.1 = true → p ∈ s.2 ∧ ∀ q ∈ H, p[0] < q[0]
  no : s.1 = false → ∀ x ∈ s.2, Inc x p
theorem put_fold {p : Pair} : ∀ (H : List Pair) (s : Bool × List Pair), H.Pairwise Inc → (∀ q ∈ H, leP q p = false) → PutI p H s →
    PutI p [] (H.foldl (putStep p) s) ∧ ∀ x, x ∈ (H.foldl (putStep p) s).2 ↔ x ∈ s.2 ∨ (x ∈ H ∧ leP p x = false) ∨ (x = p ∧ s.1 = false ∧ (H.foldl (putStep p) s).1 = true)
  | [], s, _, _, h => ⟨h, fun x => by
      constructor
      · exact .inl
      · rintro (h | ⟨h, _⟩ | ⟨rfl, h1, h2⟩)
        · exact h
        · cases h
        · rw [List.foldl_nil] at h2; rw [h1] at h2; cases h2⟩
  | q :: H, s, hF, hn, h => by
    have hF' := List.pairwise_cons.1 hF
    have hq : ¬ (q[0] ≤ p[0] ∧ q[1] ≤ p[1]) := fun e => by have := hn q (by simp); rw [leP_iff.2 e] at this; cases this
    rw [List.foldl_cons]
    have hnt : ∀ r ∈ H, leP r p = false := fun r hr => hn r (by simp [hr])
    have hstep : ∃ s', putStep p s q = s' ∧ PutI p H s' ∧ (∀ x, x ∈ s'.2 ↔ x ∈ s.2 ∨ (x = q ∧ leP p x = false) ∨ (x = p ∧ s.1 = false ∧ s'.1 = true)) ∧ (s.1 = true → s'.1 = true) := by
      refine ⟨_, rfl, ?_⟩
      unfold putStep
      cases hd : leP p q with
      | true =>
        simp only [if_true]
        refine ⟨⟨h.inc, fun x hx hxp r hr => h.ahead x hx hxp r (by simp [hr]), fun e => ⟨(h.yes e).1, fun r hr => (h.yes e).2 r (by simp [hr])⟩, h.no⟩, fun x => ?_, id⟩
        constructor
        · exact .inl
        · rintro (e | ⟨rfl, e⟩ | ⟨rfl, e1, e2⟩)
          · exact e
          · rw [hd] at e; cases e
          · rw [e1] at e2; cases e2
      | false =>
        have hk : ¬ (p[0] ≤ q[0] ∧ p[1] ≤ q[1]) := fun e => by rw [leP_iff.2 e] at hd; cases hd
        simp only [Bool.false_eq_true, if_false]
        cases hs : s.1 with
        | true =>
          obtain ⟨y1, y2⟩ := h.yes hs
          have := y2 q (by simp)
          simp only [Bool.not_true, Bool.false_and, Bool.false_eq_true, if_false]
          have hxq : ∀ x ∈ s.2, Inc x q := fun x hx => by
            by_cases e : x = p
            · subst e; exact ⟨by omega, by omega⟩
            · exact h.ahead x hx e q (by simp)
          refine ⟨⟨?_, ?_, ?_, ?_⟩, fun x => ?_, fun _ => trivial⟩
          · show (s.2 ++ [q]).Pairwise Inc
            rw [List.pairwise_append]
            exact ⟨h.inc, by simp, fun x hx y hy => by simp at hy; subst hy; exact hxq x hx⟩
          · intro x hx hxp r hr
            rcases List.mem_append.1 hx with hx | hx
            · exact h.ahead x hx hxp r (by simp [hr])
            · simp at hx; subst hx; exact hF'.1 r hr
          · exact fun _ => ⟨List.mem_append_left _ y1, fun r hr => y2 r (by simp [hr])⟩
          · intro e; cases e
          · show x ∈ s.2 ++ [q] ↔ _
            rw [List.mem_append]
            constructor
            · rintro (e | e)
              · exact .inl e
              · simp at e; subst e; exact .inr (.inl ⟨rfl, hd⟩)
            · rintro (e | ⟨rfl, _⟩ | ⟨_, e, _⟩)
              · exact .inl e
              · exact .inr (by simp)
              · cases e
        | false =>
          have hno := h.no hs
          by_cases hlt : p[0] < q[0]
          · simp only [hlt, decide_true, Bool.not_false, Bool.true_and, if_true]
            have hpq : Inc p q := ⟨by omega, by omega⟩
            refine ⟨⟨?_, ?_, ?_, ?_⟩, fun x => ?_, fun e => by cases e⟩
            · show (s.2 ++ [p] ++ [q]).Pairwise Inc
              rw [List.pairwise_append, List.pairwise_append]
              refine ⟨⟨h.inc, by simp, fun x hx y hy => by simp at hy; subst hy; exact hno x hx⟩, by simp, fun x hx y hy => ?_⟩
              simp at hy; subst hy
              rcases List.mem_append.1 hx with hx | hx
              · have h1 := hno x hx; exact ⟨by have := h1.1; omega, by have := h1.2; have := hpq.2; omega⟩
              · simp at hx; subst hx; exact hpq
            · intro x hx hxp r hr
              rcases List.mem_append.1 hx with hx | hx
              · rcases List.mem_append.1 hx with hx | hx
                · exact h.ahead x hx hxp r (by simp [hr])
                · simp at hx; exact absurd hx hxp
              · simp at hx; subst hx; exact hF'.1 r hr
            · exact fun _ => ⟨by simp, fun r hr => by have := (hF'.1 r hr).1; omega⟩
            · intro e; cases e
            · show x ∈ s.2 ++ [p] ++ [q] ↔ _
              rw [List.mem_append, List.mem_append]
              constructor
              · rintro ((e | e) | e)
                · exact .inl e
                · simp at e; exact .inr (.inr ⟨e, by simp⟩)
                · simp at e; subst e; exact .inr (.inl ⟨rfl, hd⟩)
              · rintro (e | ⟨rfl, _⟩ | ⟨rfl, _, _⟩)
                · exact .inl (.inl e)
                · exact .inr (by simp)
                · exact .inl (.inr (by simp))
          · simp only [hlt, decide_false, Bool.and_false, Bool.false_eq_true, if_false]
            have hqp : Inc q p := ⟨by omega, by omega⟩
            have hxq : ∀ x ∈ s.2, Inc x q := fun x hx => h.ahead x hx (fun e => by subst e; have := (hno x hx).1; omega) q (by simp)
            refine ⟨⟨?_, ?_, ?_, ?_⟩, fun x => ?_, fun e => by cases e⟩
            · show (s.2 ++ [q]).Pairwise Inc
              rw [List.pairwise_append]
              exact ⟨h.inc, by simp, fun x hx y hy => by simp at hy; subst hy; exact hxq x hx⟩
            · intro x hx hxp r hr
              rcases List.mem_append.1 hx with hx | hx
              · exact h.ahead x hx hxp r (by simp [hr])
              · simp at hx; subst hx; exact hF'.1 r hr
            · intro e; cases e
            · intro _ x hx
              rcases List.mem_append.1 hx with hx | hx
              · exact hno x hx
              · simp at hx; subst hx; exact hqp
            · show x ∈ s.2 ++ [q] ↔ _
              rw [List.mem_append]
              constructor
              · rintro (e | e)
                · exact .inl e
                · simp at e; subst e; exact .inr (.inl ⟨rfl, hd⟩)
              · rintro (e | ⟨rfl, _⟩ | ⟨_, _, e⟩)
                · exact .inl e
                · exact .inr (by simp)
                · cases e
    obtain ⟨s', e, h1, h2, h3⟩ := hstep
    rw [e]
    obtain ⟨h4, h5⟩ := put_fold H s' hF'.2 hnt h1
    refine ⟨h4, fun x => ?_⟩
    rw [h5, h2]
    have mono : ∀ (H : List Pair) (s : Bool × List Pair), s.1 = true → (H.foldl (putStep p) s).1 = true := by
      intro H
      induction H with
      | nil => intro s h; exact h
      | cons r H ih =>
        intro s h
        rw [List.foldl_cons]
        apply ih
        unfold putStep
        split
        · exact h
        · split
          · rfl
          · exact h
    constructor
    · rintro ((a | ⟨rfl, a⟩ | ⟨rfl, a, b⟩) | ⟨a, b⟩ | ⟨rfl, a, b⟩)
      · exact .inl a
      · exact .inr (.inl ⟨by simp, a⟩)
      · exact .inr (.inr ⟨rfl, a, mono H s' b⟩)
      · exact .inr (.inl ⟨by simp [a], b⟩)
      · refine .inr (.inr ⟨rfl, ?_, b⟩)
        cases hs : s.1 with
        | false => rfl
        | true => rw [h3 hs] at a; cases a
    · rintro (a | ⟨a, b⟩ | ⟨rfl, a, b⟩)
      · exact .inl (.inl a)
      · rcases List.mem_cons.1 a with rfl | a
        · exact .inl (.inr (.inl ⟨rfl, b⟩))
        · exact .inr (.inl ⟨a, b⟩)
      · cases hs' : s'.1 with
        | true => exact .inl (.inr (.inr ⟨rfl, a, rfl⟩))
        | false => exact .inr (.inr ⟨rfl, rfl, b⟩)
theorem put_front {L F : List Pair} {p : Pair} (h : Front L F) : Front (L ++ [p]) (putR F p) := by
  unfold putR
  split
  · rename_i ha
    obtain ⟨q, hq, hqp⟩ := List.any_eq_true.1 ha
    refine ⟨fun r hr => List.mem_append_left _ (h.sub r hr), h.inc, fun r hr => ?_⟩
    rcases List.mem_append.1 hr with hr | hr
    · exact h.dom r hr
    · simp at hr; subst hr; exact ⟨q, hq, leP_iff.1 hqp⟩
  · rename_i ha
    have hn : ∀ q ∈ F, leP q p = false := fun q hq => by
      cases hl : leP q p with
      | false => rfl
      | true => exact absurd (List.any_eq_true.2 ⟨q, hq, hl⟩) ha
    obtain ⟨h1, h2⟩ := put_fold F (false, []) h.inc hn ⟨.nil, fun x hx => (by cases hx), fun e => (by cases e), fun _ x hx => (by cases hx)⟩
    generalize F.foldl (putStep p) (false, []) = s at h1 h2
    have key : ∀ G : List Pair, G.Pairwise Inc → (∀ x, x ∈ G ↔ (x ∈ F ∧ leP p x = false) ∨ x = p) → Front (L ++ [p]) G := by
      intro G hG hm
      refine ⟨fun r hr => ?_, hG, fun r hr => ?_⟩
      · rcases (hm r).1 hr with ⟨e, _⟩ | rfl
        · exact List.mem_append_left _ (h.sub r e)
        · simp
      · rcases List.mem_append.1 hr with hr | hr
        · obtain ⟨q, hq, q0, q1⟩ := h.dom r hr
          cases hl : leP p q with
          | false => exact ⟨q, (hm q).2 (.inl ⟨hq, hl⟩), q0, q1⟩
          | true =>
            have := leP_iff.1 hl
            exact ⟨p, (hm p).2 (.inr rfl), by omega, by omega⟩
        · simp at hr; subst hr
          exact ⟨r, (hm r).2 (.inr rfl), by omega, by omega⟩
    split
    · rename_i hs
      refine key _ h1.inc fun x => ?_
      rw [h2]
      constructor
      · rintro (e | e | ⟨rfl, _, _⟩)
        · cases e
        · exact .inl e
        · exact .inr rfl
      · rintro (e | rfl)
        · exact .inr (.inl e)
        · exact .inr (.inr ⟨rfl, rfl, hs⟩)
    · rename_i hs
      have hs : s.1 = false := by simpa using hs
      refine key _ ?_ fun x => ?_
      · rw [List.pairwise_append]
        exact ⟨h1.inc, by simp, fun x hx y hy => by simp at hy; subst hy; exact h1.no hs x hx⟩
      · rw [List.mem_append, h2]
        constructor
        · rintro ((e | e | ⟨rfl, _, e⟩) | e)
          · cases e
          · exact .inl e
          · exact .inr rfl
          · simp at e; exact .inr e
        · rintro (e | rfl)
          · exact .inl (.inr (.inl e))
          · exact .inr (by simp)
theorem e0P (z : Pair) : idxA z 0 = some z[0] := by simp [idxA, idx]
theorem e1P (z : Pair) : idxA z 1 = some z[1] := by simp [idxA, idx]
theorem put_fold_len (p : Pair) : ∀ (H : List Pair) (s : Bool × List Pair), (H.foldl (putStep p) s).2.length ≤ s.2.length + 2 * H.length
  | [], s => by simp
  | q :: H, s => by
    rw [List.foldl_cons, List.length_cons]
    have h1 := put_fold_len p H (putStep p s q)
    have h2 : (putStep p s q).2.length ≤ s.2.length + 2 := by
      unfold putStep
      split
      · omega
      · split <;> simp
    omega
theorem f103_eq {F : List Pair} {p : Pair} (hF : F.length ≤ 900) : M.f103 1000 F p = some (putR F p) := by
  unfold M.f103
  refine bnd (loopM_st (N := F.length) (fun j => (j : Int)) (fun j => if leP (F[j]?.getD p) p = true then some (.inr F) else none) (.inl ()) rfl (by omega) (fun j hj _ => ?_) (fun _ => by rw [if_neg (by simp)])) ?_
  · have hx := List.getElem?_eq_getElem hj
    rw [if_pos (by simpa using hj), idx_nat, hx]
    simp only [Option.bind_eq_bind, Option.bind_some, e0P, e1P, Option.getD_some]
    unfold leP
    by_cases q0 : F[j][0] ≤ p[0]
    · by_cases q1 : F[j][1] ≤ p[1]
      · simp [q0, q1, guardO]
      · simp [q0, q1, guardO]
        rw [wr_id (by omega) (by omega)]
    · simp [q0, guardO]
      rw [wr_id (by omega) (by omega)]
  · unfold putR
    have hany : (F.any fun q => leP q p) = ((List.range F.length).findSome? (fun j => if leP (F[j]?.getD p) p = true then some (.inr F) else none : Nat → Option (Unit ⊕ List Pair))).isSome := by
      apply Bool.eq_iff_iff.2
      rw [List.any_eq_true, List.findSome?_isSome_iff]
      constructor
      · rintro ⟨q, hq, h⟩
        obtain ⟨j, hj, rfl⟩ := List.mem_iff_getElem.1 hq
        exact ⟨j, by simpa using hj, by simp [hj, h]⟩
      · rintro ⟨j, hj, h⟩
        have hj : j < F.length := by simpa using hj
        rw [List.getElem?_eq_getElem hj] at h
        refine ⟨F[j], List.getElem_mem hj, ?_⟩
        simp only [Option.getD_some] at h
        split at h
        · assumption
        · cases h
    have hval : ∀ z, (List.range F.length).findSome? (fun j => if leP (F[j]?.getD p) p = true then some (.inr F) else none : Nat → Option (Unit ⊕ List Pair)) = some z → z = .inr F := by
      intro z hz
      obtain ⟨j, _, h⟩ := List.exists_of_findSome?_eq_some hz
      split at h
      · cases h; rfl
      · cases h
    rw [hany]
    cases hfs : (List.range F.length).findSome? (fun j => if leP (F[j]?.getD p) p = true then some (.inr F) else none : Nat → Option (Unit ⊕ List Pair)) with
    | some z =>
      rw [hval z hfs]; rfl
    | none =>
      simp only [Option.getD_none, sumE, Option.isSome_none, Bool.false_eq_true, if_false]
      refine bnd (loopM_go (N := F.length) (fun j => (((F.take j).foldl (putStep p) (false, [])).1, (j : Int), ((F.take j).foldl (putStep p) (false, [])).2)) ((F.foldl (putStep p) (false, []))) rfl (by omega) (fun j hj => ?_) ?_) ?_
      · have hx := List.getElem?_eq_getElem hj
        rw [if_pos (by simpa using hj), idx_nat, hx, take_foldl hx]
        have hlen := put_fold_len p (F.take j) (false, [])
        rw [List.length_take] at hlen
        simp only [List.length_nil] at hlen
        generalize (F.take j).foldl (putStep p) (false, []) = s at *
        generalize F[j] = q
        have ew : wr ((j : Int) + 1) = ((j + 1 : Nat) : Int) := by rw [wr_id (by omega) (by omega)]; rfl
        simp only [Option.bind_eq_bind, Option.bind_some, e0P, e1P, ew]
        unfold putStep leP
        by_cases q0 : p[0] ≤ q[0]
        · by_cases q1 : p[1] ≤ q[1]
          · simp [q0, q1, guardO]
          · simp only [q0, q1, decide_true, decide_false, guardO, Option.bind_some, Bool.and_false, Bool.false_eq_true, if_false]
            cases hs : s.1 with
            | true =>
              simp only [Bool.not_true, Option.bind_some, Bool.false_and, Bool.false_eq_true, if_false]
              rw [app_one (by omega)]; rfl
            | false =>
              simp only [Bool.not_false, Option.bind_some, Bool.true_and]
              by_cases q2 : p[0] < q[0]
              · rw [if_pos (by simpa using q2), if_pos (by simpa using q2), app_one (by omega)]
                simp only [Option.bind_some]
                rw [app_one (by rw [List.length_append, List.length_cons, List.length_nil]; omega)]; rfl
              · rw [if_neg (by simpa using q2), if_neg (by simpa using q2)]
                simp only [Option.bind_some]
                rw [app_one (by omega)]; rfl
        · simp only [q0, decide_false, guardO, Option.bind_some, Bool.false_and, Bool.false_eq_true, if_false]
          have q2 : ¬ p[0] < q[0] := by omega
          cases hs : s.1 with
          | true =>
            simp only [Bool.not_true, Option.bind_some, Bool.false_and, Bool.false_eq_true, if_false]
            rw [app_one (by omega)]; rfl
          | false =>
            simp only [Bool.not_false, Option.bind_some, Bool.true_and]
            rw [if_neg (by simpa using q2), if_neg (by simpa using q2)]
            simp only [Option.bind_some]
            rw [app_one (by omega)]; rfl
      · rw [if_neg (by simp), List.take_length]
      · have hlen := put_fold_len p F (false, [])
        simp only [List.length_nil] at hlen
        generalize F.foldl (putStep p) (false, []) = s at *
        cases s.1 with
        | true => rfl
        | false =>
          simp only [Bool.not_false, if_true, Bool.false_eq_true, if_false]
          exact bnd (bnd (app_one (by omega)) rfl) rfl
/-! ### the specification's fronts -/
def refF (n : Nat) (kn of : List S_api_Offer) (a b : Nat) : Nat → List Pair
  | 0 => []
  | s + 1 => if WdS n kn of s a b < 1099511627776 then putR (refF n kn of a b s) #v[cS of s, WdS n kn of s a b] else refF n kn of a b s
theorem refF_front (n : Nat) (kn of : List S_api_Offer) (a b : Nat) : ∀ s, Front (prs n kn of a b s) (refF n kn of a b s)
  | 0 => ⟨fun p hp => (by cases hp), List.Pairwise.nil, fun p hp => (by simp [prs] at hp)⟩
  | s + 1 => by
    rw [prs_succ]
    unfold refF
    split
    · exact put_front (refF_front n kn of a b s)
    · rw [List.append_nil]; exact refF_front n kn of a b s
theorem front_len {n : Nat} {kn of : List S_api_Offer} {a b s : Nat} {F : List Pair} (h : Front (prs n kn of a b s) F) : F.length ≤ s := by
  -- each pair stands once in the list of pairs
  have h1 : F.length ≤ (prs n kn of a b s).length := by
    have key : ∀ (F L : List Pair), F.Nodup → (∀ p ∈ F, p ∈ L) → F.length ≤ L.length := by
      intro F
      induction F with
      | nil => intro L _ _; simp
      | cons p F ih =>
        intro L hd hs
        rw [List.nodup_cons] at hd
        have hp := hs p (by simp)
        have := ih (L.erase p) hd.2 (fun q hq => (List.mem_erase_of_ne (fun e => hd.1 (by rw [← e]; exact hq))).2 (hs q (by simp [hq])))
        rw [List.length_erase_of_mem hp] at this
        have := List.length_pos_of_mem hp
        rw [List.length_cons]; omega
    exact key F _ h.nodup h.sub
  have := prs_len n kn of a b s
  omega
section
variable {n : Nat} {kn of : List S_api_Offer} (hm : Ok n kn of)
include hm
theorem Ok.f52 {a : Nat} (ha : a < n) (hc : codeQ ((n : Int), kn, of) [] [(a : Int)] [] = 0) : M.f52 1000 ((n : Int), kn, of) a = some (tab n (frontS n kn of a), 0) := by
  have h8 := hm.n8
  have hp := hm.pow
  unfold M.f52
  refine bnd (f72_eqQ _ _ _ _ (by simp) (by simp)) ?_
  obtain ⟨h1, h2, h3, _⟩ := codeQ_valid hc
  rw [codeQ_zero h1 h2 h3 (by rfl), if_neg (by decide)]
  refine bnd (loopM_go (N := n) (fun j => ((j : Int), List.replicate j ([] : List Pair))) (tab n (refF n kn of a · 0)) rfl (by omega) (fun j hj => ?_) ?_) ?_
  · rw [if_pos (by simpa using hj), wr_id (by omega) (by omega)]
    refine bnd (app_one (by rw [List.length_replicate]; omega)) ?_
    rw [← List.replicate_succ']; rfl
  · rw [if_neg (by simp)]
    congr 2
    apply List.ext_getElem
    · simp [tab]
    · intro i h1 h2; simp [tab, refF]
  · refine bnd (loopM_go (N := 2 ^ of.length) (fun s => ((s : Int), tab n (refF n kn of a · s))) (tab n (refF n kn of a · (2 ^ of.length))) rfl (by omega) (fun s hs => ?_) ?_) ?_
    · refine bnd hm.shl ?_
      rw [if_pos (by simp only [decide_eq_true_eq]; omega)]
      refine bnd hm.f74 (bnd hm.costR (bnd hm.cmps (bnd hm.f101 (bnd (idx_mat ha) ?_))))
      refine bnd (loopM_go (N := n) (fun j => ((j : Int), tab n fun b => if b < j then refF n kn of a b (s + 1) else refF n kn of a b s)) (tab n (refF n kn of a · (s + 1))) (by simp) (by omega) (fun b hb => ?_) ?_) ?_
      · rw [if_pos (by simpa using hb)]
        refine bnd (idx_row hb) ?_
        have ew : wr ((b : Int) + 1) = ((b + 1 : Nat) : Int) := by rw [wr_id (by omega) (by omega)]; rfl
        have hlen := front_len (refF_front n kn of a b s)
        by_cases q : WdS n kn of s a b < 1099511627776
        · rw [if_pos (by simpa using q)]
          refine bnd (bnd (idx_tab hb) (bnd (idx_row hb) (bnd (f103_eq (p := #v[cS of s, WdS n kn of s a b]) ?_) (bnd (idx_tab hb) (bnd (set1_tab hb) rfl))))) ?_
          · rw [if_neg (Nat.lt_irrefl b)]; omega
          · rw [ew]
            congr 3
            apply tab_congr
            intro c hc
            by_cases e : c = b
            · subst e
              rw [if_pos rfl, if_neg (Nat.lt_irrefl c), if_pos (by omega)]
              show _ = if WdS n kn of s a c < 1099511627776 then _ else _
              rw [if_pos q]
            · rw [if_neg e]
              by_cases e2 : c < b
              · rw [if_pos e2, if_pos (by omega)]
              · rw [if_neg e2, if_neg (by omega)]
        · rw [if_neg (by simpa using q)]
          refine bnd rfl ?_
          rw [ew]
          congr 3
          apply tab_congr
          intro c hc
          by_cases e : c = b
          · subst e
            rw [if_neg (Nat.lt_irrefl c), if_pos (by omega)]
            show _ = if WdS n kn of s a c < 1099511627776 then _ else _
            rw [if_neg q]
          · by_cases e2 : c < b
            · rw [if_pos e2, if_pos (by omega)]
            · rw [if_neg e2, if_neg (by omega)]
      · rw [if_neg (by simp)]
        congr 2
        apply tab_congr
        intro c hc
        rw [if_pos hc]
      · rw [wr_id (by omega) (by omega)]; rfl
    · refine bnd hm.shl ?_
      rw [if_neg (by simp only [decide_eq_true_eq]; omega)]
    · show some (tab n (refF n kn of a · (2 ^ of.length)), (0 : Int)) = _
      congr 2
      apply tab_congr
      intro b _
      exact (refF_front n kn of a b (2 ^ of.length)).uniq (frontS_front n kn of a b)
end
/-! ### equal lists -/
theorem all_same {α : Type} [BEq α] [LawfulBEq α] {l l' : List α} (h : l.length = l'.length) (q : Nat → Bool) (hq : ∀ (j : Nat) (hj : j < l.length) (hj' : j < l'.length), q j = (l[j] == l'[j])) : (List.range l.length).all q = (l == l') := by
  apply Bool.eq_iff_iff.2
  rw [beq_iff_eq, List.all_eq_true]
  constructor
  · intro h1
    apply List.ext_getElem h
    intro i h2 h3
    have := h1 i (by simpa using h2)
    rw [hq i h2 h3, beq_iff_eq] at this
    exact this
  · rintro rfl j hj
    have hj : j < l.length := by simpa using hj
    rw [hq j hj hj]; simp
theorem f45_eq {l l' : List Pair} (h : l.length ≤ 4096) : M.f45 l l' = some (l == l') := by
  unfold M.f45
  by_cases q : l.length = l'.length
  · rw [if_neg (by simp; omega)]
    refine bnd (forM_test (N := l.length) (fun j => l[j]? == l'[j]?) false (by omega) fun j hj _ => ?_) ?_
    · have h1 := List.getElem?_eq_getElem hj
      have h2 := List.getElem?_eq_getElem (show j < l'.length by omega)
      rw [idx_nat, idx_nat, h1, h2]
      simp only [Option.bind_eq_bind, Option.bind_some]
      by_cases hq : l[j] = l'[j] <;> simp [hq]
    · rw [all_same q _ (fun j hj hj' => by rw [List.getElem?_eq_getElem hj, List.getElem?_eq_getElem hj']; rfl)]
      cases l == l' <;> rfl
  · rw [if_pos (by simp; omega)]
    congr 1
    symm
    rw [beq_eq_false_iff_ne]
    intro e; exact q (by rw [e])
theorem f104_eq {l l' : List (List Pair)} (h : l.length ≤ 4096) (hi : ∀ x ∈ l, x.length ≤ 4096) : M.f104 l l' (fun x0 x1 => M.f105 x0 x1) = some (l == l') := by
  unfold M.f104
  by_cases q : l.length = l'.length
  · rw [if_neg (by simp; omega)]
    refine bnd (forM_test (N := l.length) (fun j => l[j]? == l'[j]?) false (by omega) fun j hj _ => ?_) ?_
    · have h1 := List.getElem?_eq_getElem hj
      have h2 := List.getElem?_eq_getElem (show j < l'.length by omega)
      rw [idx_nat, idx_nat, h1, h2]
      simp only [Option.bind_eq_bind, Option.bind_some]
      unfold M.f105
      rw [f45_eq (hi _ (List.getElem_mem hj))]
      by_cases hq : l[j] = l'[j] <;> simp [hq]
    · rw [all_same q _ (fun j hj hj' => by rw [List.getElem?_eq_getElem hj, List.getElem?_eq_getElem hj']; rfl)]
      cases l == l' <;> rfl
  · rw [if_pos (by simp; omega)]
    congr 1
    symm
    rw [beq_eq_false_iff_ne]
    intro e; exact q (by rw [e])
theorem f36_eq {l l' : List (List Pair)} (h : l.length ≤ 900) (hi : ∀ x ∈ l, x.length ≤ 900) : M.f36 1000 l l' = some (l == l') := by
  unfold M.f36
  by_cases q : l.length = l'.length
  · rw [if_neg (by simp; omega)]
    refine bnd (loopM_test (N := l.length) (fun j => (j : Int)) (fun j => l[j]? == l'[j]?) (.inr false) (.inl ()) rfl (by omega) (fun j hj _ => ?_) (by rw [if_neg (by simp)])) ?_
    · have h1 := List.getElem?_eq_getElem hj
      have h2 := List.getElem?_eq_getElem (show j < l'.length by omega)
      have ew : wr ((j : Int) + 1) = ((j + 1 : Nat) : Int) := by rw [wr_id (by omega) (by omega)]; rfl
      have hij := hi _ (List.getElem_mem hj)
      rw [if_pos (by simpa using hj), idx_nat, idx_nat, h1, h2, ew]
      generalize l[j] = x at *
      generalize l'[j] = y at *
      simp only [Option.bind_eq_bind, Option.bind_some]
      by_cases hl : x.length = y.length
      · rw [if_neg (by simp; omega)]
        have := loopM_test (ρ := Unit ⊕ Bool) (N := x.length) (fuel := 1000) (s := (0 : Int)) (f := fun s_9 => if decide (s_9 < (x.length : Int)) = true then (idx x s_9).bind fun v_17 => (idx y s_9).bind fun v_21 => if (v_17 != v_21) = true then some (.leave (.inr false)) else some (.again (wr (s_9 + 1))) else some (.leave (.inl ())))
          (fun j => (j : Int)) (fun j => x[j]? == y[j]?) (.inr false) (.inl ()) rfl (by omega) (fun j hj _ => by
            have h1 := List.getElem?_eq_getElem hj
            have h2 := List.getElem?_eq_getElem (show j < y.length by omega)
            rw [if_pos (by simpa using hj), idx_nat, idx_nat, h1, h2]
            simp only [Option.bind_some]
            rw [wr_id (by omega) (by omega)]
            by_cases hq : x[j] = y[j]
            · simp [hq]
            · simp [hq]) (by rw [if_neg (by simp)])
        rw [this, all_same hl _ (fun j hj hj' => by rw [List.getElem?_eq_getElem hj, List.getElem?_eq_getElem hj']; rfl)]
        by_cases e : x = y
        · subst e; simp [sumE]
        · have e' : (x == y) = false := by rw [beq_eq_false_iff_ne]; exact e
          simp [e, sumE]
      · rw [if_pos (by simp; omega)]
        have e : ¬ x = y := fun e => hl (by rw [e])
        simp [e]
    · rw [all_same q _ (fun j hj hj' => by rw [List.getElem?_eq_getElem hj, List.getElem?_eq_getElem hj']; rfl)]
      cases l == l' <;> rfl
  · rw [if_pos (by simp; omega)]
    congr 1
    symm
    rw [beq_eq_false_iff_ne]
    intro e; exact q (by rw [e])
theorem frontS_len {n : Nat} {kn of : List S_api_Offer} (hm : Ok n kn of) (a b : Nat) : (frontS n kn of a b).length ≤ 64 := by
  have h1 := front_len (frontS_front n kn of a b)
  have h2 := hm.pow
  omega
theorem f43_eq (l : List (List Pair)) (k : Nat) (P : List Pair → Option Bool) (hP : ∀ x, P x = some (decide ((k : Int) < (x.length : Int)))) (hl : l.length ≤ 4096) : M.f43 l P = some (l.any fun x => decide (k < x.length)) := by
  unfold M.f43 M.f97
  refine bnd (y := idxF (fun x => decide (k < x.length)) l) (bnd (forM_idx l (fun x => decide (k < x.length)) (by omega) fun j x hx => ?_) ?_) ?_
  · rw [idx_nat, hx]
    simp only [Option.bind_eq_bind, Option.bind_some, hP]
    by_cases q : k < x.length
    · have q' : ((k : Int) < (x.length : Int)) := by omega
      simp [q, q']
    · have q' : ¬ ((k : Int) < (x.length : Int)) := by omega
      simp [q, q']
  · unfold idxF
    cases l.findIdx? (fun x => decide (k < x.length)) <;> rfl
  · rw [idxF_any]
end Go.Proofs.Ytkbilbeaedocjaa
