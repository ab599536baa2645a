/-
  What is proved: for all rosters, gates, lists and turns the model of WatchLacking returns true.
-/
import Derived.Test.YthogdhepjcomjaaGreatDoorLawWatchNeeds
import Derived.Test.YthogdhepjcomjaaGreatDoorModelP
namespace Go.Proofs.YthogdhepjcomjaaGreatDoor
open Go Go.Proofs.YthogdhepjcomjaaGreatDoor.Wh

def laT (q : Int) (t : S_api_Turn) : S_api_Turn := (q, t.2.1, t.2.2.1, t.2.2.2.1, t.2.2.2.2.1, t.2.2.2.2.2)
/-- A roster in which a turn is one of a new gate. -/
def laR (r : S_api_Roster) (j : Nat) : S_api_Roster := (r.1 + 1, r.2.1, r.2.2.1, r.2.2.2.1, r.2.2.2.2.set j (laT r.1 (tnJ r j)))
section
variable {r : S_api_Roster} (h : Vd r) {g : Int} {j : Nat} (hj : j < r.2.2.2.2.length)
include hj
theorem la_tn (x : Int) (hx : inR r x = true) : tn (laR r j) x = if x = (j : Int) then laT r.1 (tn r x) else tn r x := by
  have hx := inR_iff.1 hx
  obtain ⟨k, rfl⟩ : ∃ k : Nat, x = (k : Int) := ⟨x.toNat, by omega⟩
  have hk : k < r.2.2.2.2.length := by omega
  show (r.2.2.2.2.set j (laT r.1 (tnJ r j))).getD k (0, 0, 0, 0, 0, 0) = _
  rw [List.getD_eq_getElem?_getD, List.getElem?_set]
  by_cases e : j = k
  · subst e
    rw [if_pos rfl, if_pos hj, if_pos rfl]
    rfl
  · rw [if_neg e, if_neg (by omega)]
    show _ = r.2.2.2.2.getD k (0, 0, 0, 0, 0, 0)
    rw [List.getD_eq_getElem?_getD]
omit hj in
theorem la_inR (x : Int) : inR (laR r j) x = inR r x := by
  unfold inR laR
  simp only [List.length_set]
theorem la_rest (x : Int) (hx : inR r x = true) : (tn (laR r j) x).2 = (tn r x).2 := by
  rw [la_tn hj x hx]
  split
  · rfl
  · rfl
theorem la_gate (x : Int) (hx : inR r x = true) : (tn (laR r j) x).1 = if x = (j : Int) then r.1 else (tn r x).1 := by
  rw [la_tn hj x hx]
  split
  · rfl
  · rfl
theorem la_bg (x : Int) (hx : inR r x = true) : bgI (laR r j) x = bgI r x := by
  unfold bgI
  rw [la_rest hj x hx]; rfl
theorem la_en (x : Int) (hx : inR r x = true) : enI (laR r j) x = enI r x := by
  unfold enI
  rw [la_rest hj x hx]; rfl
theorem la_me (x y : Int) (hx : inR r x = true) (hy : inR r y = true) : meI (laR r j) x y = meI r x y := by
  unfold meI
  rw [la_rest hj x hx, la_rest hj y hy]; rfl
include h
theorem la_vd (hG : r.1 ≠ 8) : Vd (laR r j) := by
  have h1 := hdB_iff.1 h.hd
  have hd : hdB (laR r j) = true := hdB_iff.2 (by
    show 1 ≤ r.1 + 1 ∧ r.1 + 1 ≤ 8 ∧ 0 ≤ r.2.1 ∧ r.2.1 < r.2.2.1 ∧ r.2.2.1 ≤ 16777216 ∧ 1 ≤ (r.2.2.2.1.length : Int) ∧ (r.2.2.2.1.length : Int) ≤ 8 ∧ ((r.2.2.2.2.set j (laT r.1 (tnJ r j))).length : Int) ≤ 24
    rw [List.length_set]
    omega)
  have ht : turnsB (laR r j) = true := by
    unfold turnsB
    rw [List.all_eq_true]
    intro t hm
    obtain ⟨k, hk, e⟩ : ∃ k, k < (laR r j).2.2.2.2.length ∧ tnJ (laR r j) k = t := by
      obtain ⟨k, hk⟩ := List.mem_iff_getElem?.1 hm
      exact ⟨k, (List.getElem?_eq_some_iff.1 hk).1, by unfold tnJ; rw [List.getD_eq_getElem?_getD, hk]; rfl⟩
    have hk2 : k < r.2.2.2.2.length := by
      have : (laR r j).2.2.2.2.length = r.2.2.2.2.length := by show (r.2.2.2.2.set j (laT r.1 (tnJ r j))).length = _; rw [List.length_set]
      omega
    have hr : inR r (k : Int) = true := inR_iff.2 ⟨by omega, by omega⟩
    have hg := la_gate hj (k : Int) hr
    have hs := la_rest hj (k : Int) hr
    have tk := turnB_iff.1 (h.turn hr)
    rw [← e]
    show turnB (r.1 + 1) (r.2.2.2.1.length : Int) (tn (laR r j) (k : Int)) = true
    rw [turnB_iff, hs, hg]
    split <;> omega
  refine ⟨?_⟩
  have h2 := h.h
  unfold vldB at h2 ⊢
  simp only [Bool.and_eq_true] at h2 ⊢
  exact ⟨⟨⟨hd, h2.1.1.2⟩, h2.1.2⟩, ht⟩
omit h in
theorem la_way (h8 : g ≠ r.1) {l : List Int} {x : Int} : Way (laR r j) g l x ↔ Way r g l x ∧ ¬ (j : Int) ∈ l := by
  constructor
  · intro hw
    have hn : ¬ (j : Int) ∈ l := fun hm => by
      obtain ⟨a, b⟩ := hw.all _ hm
      rw [la_inR] at a
      rw [la_gate hj _ a, if_pos rfl] at b
      exact h8 b.symm
    refine ⟨?_, hn⟩
    induction hw with
    | @one x a b d =>
      rw [la_inR] at a
      rw [la_gate hj _ a, if_neg (fun e => hn (by rw [e]; simp))] at b
      rw [la_bg hj _ a] at d
      exact .one a b d
    | @snoc l x y hw hi hf hne ih =>
      have hn2 : ¬ (j : Int) ∈ l := fun q => hn (List.mem_append_left _ q)
      have ih := ih hn2
      rw [la_inR] at hi
      refine .snoc ih hi ?_ hne
      obtain ⟨f1, f2, f3⟩ := foB_iff.1 hf
      have hxj : ¬ x = (j : Int) := fun e => hn2 (by obtain ⟨p, hp⟩ := ih.last; rw [hp, ← e]; simp)
      rw [la_gate hj _ ih.inRx, la_gate hj _ hi, if_neg hxj, if_neg (fun e => hn (by rw [← e]; simp))] at f2
      rw [la_me hj _ _ ih.inRx hi] at f3
      exact foB_iff.2 ⟨f1, f2, f3⟩
  · rintro ⟨hw, hn⟩
    induction hw with
    | @one x a b d => exact .one (by rw [la_inR]; exact a) (by rw [la_gate hj _ a, if_neg (fun e => hn (by rw [e]; simp))]; exact b) (by rw [la_bg hj _ a]; exact d)
    | @snoc l x y hw hi hf hne ih =>
      have hn2 : ¬ (j : Int) ∈ l := fun q => hn (List.mem_append_left _ q)
      refine .snoc (ih hn2) (by rw [la_inR]; exact hi) ?_ hne
      obtain ⟨f1, f2, f3⟩ := foB_iff.1 hf
      have hxj : ¬ x = (j : Int) := fun e => hn2 (by obtain ⟨p, hp⟩ := hw.last; rw [hp, ← e]; simp)
      refine foB_iff.2 ⟨f1, ?_, ?_⟩
      · rw [la_gate hj _ hw.inRx, la_gate hj _ hi, if_neg hxj, if_neg (fun e => hn (by rw [← e]; simp))]; exact f2
      · rw [la_me hj _ _ hw.inRx hi]; exact f3
omit h in
theorem la_cs (x : Int) : cs (laR r j) x = cs r x := by
  by_cases hx : x.toNat < r.2.2.2.2.length
  · have hr : inR r (x.toNat : Int) = true := inR_iff.2 ⟨by omega, by omega⟩
    show (tn (laR r j) (x.toNat : Int)).2.2.2.2.2 = (tn r (x.toNat : Int)).2.2.2.2.2
    rw [la_rest hj _ hr]
  · unfold cs tn
    rw [List.getD_eq_getElem?_getD, List.getElem?_eq_none (by show (r.2.2.2.2.set j (laT r.1 (tnJ r j))).length ≤ _; rw [List.length_set]; omega), List.getD_eq_getElem?_getD, List.getElem?_eq_none (by omega)]
omit h in
theorem la_csum : csum (laR r j) = csum r := by
  funext l
  induction l with
  | nil => rfl
  | cons a l ih => unfold csum; rw [la_cs hj, ih]
omit h in
/-- Plans that do without a turn. -/
theorem la_plan (h8 : g ≠ r.1) {l : List Int} : planB (laR r j) g l = true ↔ planB r g l = true ∧ ¬ (j : Int) ∈ l := by
  rw [planB_iff, planB_iff]
  constructor
  · rintro ⟨z, hw, he⟩
    obtain ⟨h1, h2⟩ := (la_way hj h8).1 hw
    rw [la_en hj _ h1.inRx] at he
    exact ⟨⟨z, h1, he⟩, h2⟩
  · rintro ⟨⟨z, hw, he⟩, hn⟩
    exact ⟨z, (la_way hj h8).2 ⟨hw, hn⟩, by rw [la_en hj _ hw.inRx]; exact he⟩
theorem f63_eq (hG : r.1 ≠ 8) : M.f63 r (j : Int) = some (laR r j, true) := by
  have h24 := h.len
  have h1 := hdB_iff.1 h.hd
  have e1 : M.f61 r.2.2.2.2 = some r.2.2.2.2 := by unfold M.f61; rw [if_pos (by omega)]
  have e2 : idx r.2.2.2.2 (j : Int) = some (tnJ r j) := idx_getD hj
  have e3 : set1 r.2.2.2.2 (j : Int) (laT r.1 (tnJ r j)) = some (r.2.2.2.2.set j (laT r.1 (tnJ r j))) := by
    unfold set1
    rw [if_neg (by omega), if_pos (by simpa using hj)]; rfl
  have e3' : set1 r.2.2.2.2 (j : Int) (r.1, (tnJ r j).2.1, (tnJ r j).2.2.1, (tnJ r j).2.2.2.1, (tnJ r j).2.2.2.2.1, (tnJ r j).2.2.2.2.2) = some (r.2.2.2.2.set j (laT r.1 (tnJ r j))) := e3
  have e4 : (r.1 == (8 : Int)) = false := by simpa using hG
  unfold M.f63
  simp only [e1, e2, e3', e4, Bool.false_eq_true, if_false, Option.bind_eq_bind, Option.bind_some, wr_id (n := r.1 + 1) (by omega) (by omega)]
  rfl
end
theorem plan_cost {r : S_api_Roster} (h : Vd r) {g : Int} {l : List Int} (hp : planB r g l = true) : M.f53 r l = some (csum r l, 0) := by
  obtain ⟨z, hw, _⟩ := planB_iff.1 hp
  have hg := (hw.good h)
  rw [f53_eq (by omega)]
  unfold cosV
  have e : (l.all (inR r) && difB l) = true := by rw [hg.1.1, difB_iff.2 hw.nodup]; rfl
  rw [if_pos h.h, if_pos e, sumW_eq h (by omega) l.length (Nat.le_refl _), List.take_length]
/-- A turn that is needed is in each plan. -/
theorem nee_mem {r : S_api_Roster} {g : Int} {x : Int} (hx : x ∈ selI (fun j => (tnJ r j).1 == g && !((rchL r g (j : Int)).any fun x => decide (enI r x ≤ 0))) r.2.2.2.2.length) {l : List Int} (hp : planB r g l = true) : x ∈ l := by
  obtain ⟨a, b, d⟩ := selI_mem.1 hx
  rw [Bool.and_eq_true, Bool.not_eq_true'] at d
  refine Classical.byContradiction fun hn => ?_
  obtain ⟨z, hw, he⟩ := planB_iff.1 hp
  have e : ((x.toNat : Nat) : Int) = x := by omega
  have : (rchL r g ((x.toNat : Nat) : Int)).any (fun x => decide (enI r x ≤ 0)) = true := List.any_eq_true.2 ⟨z, rchL_mem.2 (hw.rch (by rw [e]; exact hn)), by simpa using he⟩
  rw [d.2] at this; cases this
theorem law_WatchLacking (p0 : S_api_Roster) (p1 : Int) (p2 : List Int) (p3 : Int) : ∃ fuel, M.f14 fuel p0 p1 p2 p3 = some true := by
  refine ⟨wayB p0.2.2.2.2.length + 1000, ?_⟩
  unfold M.f14
  rw [sane_at (by omega), f33_eq (by omega)]
  simp only [Option.bind_eq_bind, Option.bind_some, Bool.not_true, Bool.false_eq_true, if_false, f17_eq (show [p2].length ≤ 4294967296 by simp)]
  cases hv : vldB p0 with
  | false => rfl
  | true =>
    have h : Vd p0 := ⟨hv⟩
    simp only [Bool.not_true, Bool.not_false, guardO_t, Option.bind_some, Bool.false_or]
    split
    · rfl
    rename_i hc
    simp only [Bool.or_eq_true, Bool.not_eq_true', decide_eq_true_eq] at hc
    have hfew : fewB p0 [p2] = true := by
      cases q : fewB p0 [p2] with
      | true => rfl
      | false => exact absurd (.inl (.inl (.inl (.inl q)))) hc
    have hl : p2.length ≤ 100 := by
      unfold fewB at hfew
      simp only [List.all_cons, List.all_nil, Bool.and_true, Bool.and_eq_true, decide_eq_true_eq] at hfew
      omega
    have hg0 : 0 ≤ p1 := by omega
    have hg1 : p1 < p0.1 := by omega
    obtain ⟨j, rfl⟩ : ∃ j : Nat, p3 = (j : Int) := ⟨p3.toNat, by omega⟩
    have hj : j < p0.2.2.2.2.length := by omega
    have h24 := h.len
    have hfu : wayB p0.2.2.2.2.length < wayB p0.2.2.2.2.length + 1000 := by omega
    have hlm : (laR p0 j).2.2.2.2.length = p0.2.2.2.2.length := by show (p0.2.2.2.2.set j (laT p0.1 (tnJ p0 j))).length = _; rw [List.length_set]
    have hfm : wayB (laR p0 j).2.2.2.2.length < wayB p0.2.2.2.2.length + 1000 := by rw [hlm]; exact hfu
    have hf1 : 100 < wayB p0.2.2.2.2.length + 1000 := by omega
    generalize wayB p0.2.2.2.2.length + 1000 = fuel at *
    obtain ⟨a, e1, ha⟩ := f34_so h hg0 hg1 hfu
    obtain ⟨a1, a2⟩ := ha.plan
    have hal := ha.len h
    have ne : neeV p0 p1 = if a = [] then ([], 4) else (selI (fun j => (tnJ p0 j).1 == p1 && !((rchL p0 p1 (j : Int)).any fun x => decide (enI p0 x ≤ 0))) p0.2.2.2.2.length, 0) := by
      unfold neeV
      rw [if_pos (gateE_of h hg0 hg1)]
      by_cases q : a = []
      · rw [if_neg (fun q2 => a1.2 (rch_late.1 q2) q), if_pos q]
      · rw [if_pos (rch_late.2 (a1.1 q)), if_neg q]
    simp only [e1, f55_eq (show 25 < fuel by omega), Option.bind_some, ne]
    have c1 : ((((0 : Int) != 0) || (!a.isEmpty && ((if a = [] then (([], 4) : List Int × Int) else (selI (fun j => (tnJ p0 j).1 == p1 && !((rchL p0 p1 (j : Int)).any fun x => decide (enI p0 x ≤ 0))) p0.2.2.2.2.length, 0)).2 != 0))) || (!!a.isEmpty && ((if a = [] then (([], 4) : List Int × Int) else (selI (fun j => (tnJ p0 j).1 == p1 && !((rchL p0 p1 (j : Int)).any fun x => decide (enI p0 x ≤ 0))) p0.2.2.2.2.length, 0)).2 != 4))) = false := by
      cases a with
      | nil => rfl
      | cons x q => rfl
    simp only [c1, Bool.false_eq_true, if_false]
    by_cases hG : p0.1 = 8
    · have e63 : ∃ m, M.f63 p0 (j : Int) = some (m, false) := by
        have e61 : M.f61 p0.2.2.2.2 = some p0.2.2.2.2 := by unfold M.f61; rw [if_pos (by omega)]
        unfold M.f63
        rw [e61, hG]
        exact ⟨_, rfl⟩
      obtain ⟨m, e63⟩ := e63
      rw [e63]; rfl
    have hm := la_vd h hj hG
    have hgm : p1 < (laR p0 j).1 := by show p1 < p0.1 + 1; omega
    have h8 : p1 ≠ p0.1 := by omega
    obtain ⟨b, e2, hb⟩ := f34_so hm hg0 hgm hfm
    obtain ⟨b1, b2⟩ := hb.plan
    have hbl := hb.len hm
    have hcB : cB (laR p0 j) = cB p0 := by unfold cB; rw [la_csum hj]
    rw [hcB] at hb
    simp only [f63_eq h hj hG, e2, f20_eq (show 25 < fuel by omega), Option.bind_some, Bool.not_true, Bool.false_eq_true, if_false]
    have hgv : gapV (laR p0 j) p1 = if b = [] then (rchL (laR p0 j) p1 (-1), true, 0) else ([], false, 0) := by
      unfold gapV
      rw [if_pos (gateE_of hm hg0 hgm)]
      by_cases q : b = []
      · rw [if_neg (fun q2 => b1.2 (rch_late.1 q2) q), if_pos q]
      · rw [if_pos (rch_late.2 (b1.1 q)), if_neg q]
    rw [hgv]
    have hrl := rchL_len (r := laR p0 j) (g := p1) (w := -1)
    have c2 : ∃ w, guardO ((!(((((0 : Int) != 0) || ((if b = [] then ((rchL (laR p0 j) p1 (-1), true, 0) : List Int × Bool × Int) else ([], false, 0)).2.2 != 0)) || ((!b.isEmpty) == (if b = [] then ((rchL (laR p0 j) p1 (-1), true, 0) : List Int × Bool × Int) else ([], false, 0)).2.1)))) && (if b = [] then ((rchL (laR p0 j) p1 (-1), true, 0) : List Int × Bool × Int) else ([], false, 0)).2.1) (M.f25 fuel (laR p0 j) p1 (if b = [] then ((rchL (laR p0 j) p1 (-1), true, 0) : List Int × Bool × Int) else ([], false, 0)).1) = some w ∧
        ((((((0 : Int) != 0) || ((if b = [] then ((rchL (laR p0 j) p1 (-1), true, 0) : List Int × Bool × Int) else ([], false, 0)).2.2 != 0)) || ((!b.isEmpty) == (if b = [] then ((rchL (laR p0 j) p1 (-1), true, 0) : List Int × Bool × Int) else ([], false, 0)).2.1)) || ((if b = [] then ((rchL (laR p0 j) p1 (-1), true, 0) : List Int × Bool × Int) else ([], false, 0)).2.1 && (w != 0)))) = false := by
      cases hbe : b with
      | nil =>
        have hlate : (rchL (laR p0 j) p1 (-1)).any (fun x => decide (enI (laR p0 j) x ≤ 0)) = false := by
          rw [← Bool.not_eq_true]
          exact fun q => b1.2 (rch_late.1 q) hbe
        refine ⟨0, ?_, rfl⟩
        show M.f25 fuel (laR p0 j) p1 (rchL (laR p0 j) p1 (-1)) = some 0
        rw [f25_eq (by omega) hf1, rch_gap hm hg0 hgm hlate]
      | cons x q => exact ⟨_, rfl, rfl⟩
    obtain ⟨w, hw1, hw2⟩ := c2
    refine bnd hw1 ?_
    simp only [hw2, Bool.false_eq_true, if_false]
    -- plans without the turn are plans
    have hsub : b ≠ [] → planB p0 p1 b = true ∧ ¬ (j : Int) ∈ b := fun q => (la_plan hj h8).1 (b2 q)
    by_cases qa : a = []
    · have qb : b = [] := by
        by_cases q : b = []
        · exact q
        · exact absurd qa (a1.2 ⟨b, (hsub q).1⟩)
      subst qa; subst qb
      rfl
    have hae : a.isEmpty = false := by rw [List.isEmpty_eq_false_iff]; exact qa
    have pa := a2 qa
    simp only [hae, Bool.not_false, Bool.not_true, Bool.false_eq_true, if_false, if_neg qa]
    generalize hN : selI (fun j => (tnJ p0 j).1 == p1 && !((rchL p0 p1 (j : Int)).any fun x => decide (enI p0 x ≤ 0))) p0.2.2.2.2.length = ned at *
    have hnl : ned.length ≤ 24 := by rw [← hN]; exact Nat.le_trans (selI_len _ _) h24
    refine bnd (forM_all (ρ := Bool) [a, p2] (by simp) (fun _ => true) false _ fun i x hx => ?_) ?_
    · have hxl : x.length ≤ 100 := by
        have := List.mem_of_getElem? hx
        rw [List.mem_cons, List.mem_singleton] at this
        rcases this with e | e <;> subst e <;> omega
      simp only [idx_nat, hx, Option.bind_some, f35_eq hxl hf1, chkP_zero h hg0 hg1, if_true]
      cases hp : planB p0 p1 x with
      | false => rfl
      | true =>
        have e42 : M.f42 ned (fun x0 => M.f64 x0 x) = some (ned.any fun y => !x.contains y) := f42_eq _ (by omega) fun y _ => by
          unfold M.f64
          rw [f44_eq (by omega)]
          rfl
        have hall : (ned.any fun y => !x.contains y) = false := by
          rw [List.any_eq_false]
          intro y hy
          rw [← hN] at hy
          have := nee_mem hy hp
          simpa using this
        simp only [if_true, beq_self_eq_true, guardO, e42, hall, Option.bind_some, Bool.and_false, Bool.false_eq_true, if_false]
    · simp only [List.all_eq_true, implies_true, if_true, Out.elim, f44_eq (show ned.length ≤ 4294967296 by omega), Option.bind_some]
      by_cases hmem : (j : Int) ∈ ned
      · have e5 : ned.contains (j : Int) = true := by simpa using hmem
        have qb : b = [] := by
          by_cases q : b = []
          · exact q
          · obtain ⟨k1, k2⟩ := hsub q
            rw [← hN] at hmem
            exact absurd (nee_mem hmem k1) k2
        subst qb
        rw [e5]; rfl
      · have e5 : ned.contains (j : Int) = false := by simpa using hmem
        have qb : b ≠ [] := by
          refine b1.2 ?_
          by_cases hgj : (tnJ p0 j).1 = p1
          · -- it is not needed
            have : ((tnJ p0 j).1 == p1 && !((rchL p0 p1 (j : Int)).any fun x => decide (enI p0 x ≤ 0))) = false := by
              rw [← Bool.not_eq_true]
              intro q
              apply hmem
              rw [← hN, selI_mem]
              exact ⟨by omega, by omega, by simpa using q⟩
            have e6 : ((tnJ p0 j).1 == p1) = true := by simp [hgj]
            rw [e6, Bool.true_and, Bool.not_eq_false'] at this
            rw [List.any_eq_true] at this
            obtain ⟨x, hx, he⟩ := this
            obtain ⟨l, k1, k2⟩ := (rchL_mem.1 hx).way
            exact ⟨l, (la_plan hj h8).2 ⟨planB_iff.2 ⟨x, k1, by simpa using he⟩, k2⟩⟩
          · refine ⟨a, (la_plan hj h8).2 ⟨pa, fun hm2 => hgj ?_⟩⟩
            obtain ⟨z, hwz, _⟩ := planB_iff.1 pa
            exact (hwz.all _ hm2).2
        obtain ⟨k1, k2⟩ := hsub qb
        have hle := ha.le k1
        have hbe : b.isEmpty = false := by rw [List.isEmpty_eq_false_iff]; exact qb
        have hd : decide (csum p0 b < csum p0 a) = false := by rw [decide_eq_false_iff_not]; have := cB_le hle; omega
        simp only [e5, hbe, Bool.not_false, Bool.not_true, Bool.false_eq_true, if_false, plan_cost h pa, plan_cost h k1, Option.bind_some, bne_self_eq_false, Bool.or_self, hd, f44_eq (show a.length ≤ 4294967296 by omega), f24_eq (show a.length ≤ 4294967296 by omega)]
        by_cases hja : (j : Int) ∈ a
        · have e7 : a.contains (j : Int) = true := by simpa using hja
          rw [e7]; rfl
        · have e7 : a.contains (j : Int) = false := by simpa using hja
          have pam : planB (laR p0 j) p1 a = true := (la_plan hj h8).2 ⟨pa, hja⟩
          have eab : a = b := (by_ord h).anti hle (hb.le pam)
          rw [e7, eab]
          simp [guardO]
end Go.Proofs.YthogdhepjcomjaaGreatDoor
