/-
  What is proved: for all rosters, gates, lists, matrices and turns the model of WatchExact returns true.
-/
import Derived.Test.YthogdhepjcomjaaGreatDoorLawWatchLacking
import Derived.Test.YthogdhepjcomjaaGreatDoorLawWatchBare
import Derived.Test.YthogdhepjcomjaaGreatDoorModelQ
namespace Go.Proofs.YthogdhepjcomjaaGreatDoor
open Go Go.Proofs.YthogdhepjcomjaaGreatDoor.Wh

/-! ### plans by their lags -/
def lagsL (r : S_api_Roster) (l : List Int) : List S_watch_lag := lagF r l (l.length - 1) ++ [enP r l]
theorem planB_lags {r : S_api_Roster} {g : Int} {l : List Int} : planB r g l = (!l.isEmpty && (difB l && (l.all (inR r) && (l.all (fun x => (tn r x).1 == g) && (lagsL r l).all fun x => decide (x.1 ≤ 0))))) := by
  unfold planB lagsL
  rw [lags_all]
/-- What a fold of lags is. -/
theorem sp_facts : ∀ (L : List S_watch_lag) (m : Int), L.foldl spF m ≤ m ∧ (∀ x ∈ L, x.2 = false → L.foldl spF m ≤ 0 - x.1) ∧ (L.foldl spF m = m ∨ ∃ x ∈ L, x.2 = false ∧ L.foldl spF m = 0 - x.1)
  | [], m => ⟨Int.le_refl _, (fun x hx => by cases hx), .inl rfl⟩
  | x :: L, m => by
    obtain ⟨h1, h2, h3⟩ := sp_facts L (spF m x)
    rw [List.foldl_cons]
    have hm : spF m x ≤ m ∧ (x.2 = false → spF m x ≤ 0 - x.1) ∧ (spF m x = m ∨ (x.2 = false ∧ spF m x = 0 - x.1)) := by
      unfold spF imin
      cases x.2 with
      | true => exact ⟨by simp, fun q => (by cases q), .inl (by simp)⟩
      | false =>
        simp only [Bool.false_eq_true, if_false, true_and, forall_const]
        split <;> omega
    refine ⟨Int.le_trans h1 hm.1, fun y hy hys => ?_, ?_⟩
    · rcases List.mem_cons.1 hy with e | hy
      · subst e; exact Int.le_trans h1 (hm.2.1 hys)
      · exact h2 y hy hys
    · rcases h3 with h3 | ⟨y, hy, h4, h5⟩
      · rcases hm.2.2 with h6 | ⟨h6, h7⟩
        · exact .inl (h3.trans h6)
        · exact .inr ⟨x, List.mem_cons_self .., h6, h3.trans h7⟩
      · exact .inr ⟨y, List.mem_cons_of_mem _ hy, h4, h5⟩
theorem sp_lags {r : S_api_Roster} {l : List Int} : spF (spG r l (spF 1048576 (bgP r l)) (l.length - 1)) (enP r l) = (lagsL r l).foldl spF 1048576 := by
  unfold lagsL lagF spG
  rw [List.foldl_append, List.foldl_cons]
  rfl

/-! ### clocks that are less exact -/
def wdF (r : S_api_Roster) (k : Int) (a b : Nat) : Int := if a = b then ahd r a b else ahd r a b + k
def wdR (r : S_api_Roster) (k : Int) : S_api_Roster := (r.1, r.2.1, r.2.2.1, (List.range r.2.2.2.1.length).map fun a => (List.range r.2.2.2.1.length).map (wdF r k a), r.2.2.2.2)
theorem wd_ahd {r : S_api_Roster} {k : Int} {a b : Nat} (ha : a < r.2.2.2.1.length) (hb : b < r.2.2.2.1.length) : ahd (wdR r k) a b = wdF r k a b := by
  show (((List.range r.2.2.2.1.length).map fun a => (List.range r.2.2.2.1.length).map (wdF r k a)).getD a []).getD b 0 = _
  rw [List.getD_eq_getElem?_getD, List.getD_eq_getElem?_getD, List.getElem?_map, List.getElem?_range ha]
  simp only [Option.map_some, Option.getD_some]
  rw [List.getElem?_map, List.getElem?_range hb]; rfl
def wdP (k : Int) (x : S_watch_lag) : S_watch_lag := (x.1 + (if x.2 = true then 0 else k), x.2)
section
variable {r : S_api_Roster} (h : Vd r) {k : Int} {g : Int} {l : List Int}
include h
theorem wd_lags (ha : l.all (inR r) = true) (hl : l ≠ []) : lagsL (wdR r k) l = (lagsL r l).map (wdP k) := by
  have hn1 := h.n1
  have hlen := List.length_pos_iff.2 hl
  have hi : ∀ j, j < l.length → inR r (l.getD j 0) = true := fun j hj => all_get ha hj
  have key : ∀ (u v x y : Nat) (c : Int), u < r.2.2.2.1.length → v < r.2.2.2.1.length → c + ahd (wdR r k) u v = (c + ahd r u v) + (if u = v then 0 else k) := fun u v x y c hu hv => by
    rw [wd_ahd hu hv]
    unfold wdF
    split <;> omega
  unfold lagsL lagF
  rw [List.map_append, List.map_cons, List.map_map]
  refine congr (congrArg _ (congr (congrArg _ ?_) (List.map_congr_left fun j hj => ?_))) (congrArg (fun x => [x]) ?_)
  · have t1 := turnB_iff.1 (h.turn (hi 0 hlen))
    unfold bgP wdP bgI
    have e := key 0 (tn r (l.getD 0 0)).2.1.toNat 0 0 ((tn r (l.getD 0 0)).2.2.1 - r.2.1) (by omega) (by omega)
    refine Prod.ext ?_ rfl
    show (tn r (l.getD 0 0)).2.2.1 - r.2.1 + ahd (wdR r k) 0 (tn r (l.getD 0 0)).2.1.toNat = _
    rw [e]
    simp only [beq_iff_eq]
    by_cases q : (0 : Int) = (tn r (l.getD 0 0)).2.1
    · rw [if_pos q, if_pos (by omega)]
    · rw [if_neg q, if_neg (by omega)]
  · have hj := List.mem_range.1 hj
    have t1 := turnB_iff.1 (h.turn (hi j (by omega)))
    have t2 := turnB_iff.1 (h.turn (hi (j + 1) (by omega)))
    unfold meP Function.comp wdP meI
    have e := key (tn r (l.getD j 0)).2.2.2.1.toNat (tn r (l.getD (j + 1) 0)).2.1.toNat 0 0 ((tn r (l.getD (j + 1) 0)).2.2.1 - (tn r (l.getD j 0)).2.2.2.2.1) (by omega) (by omega)
    refine Prod.ext ?_ rfl
    show (tn r (l.getD (j + 1) 0)).2.2.1 - (tn r (l.getD j 0)).2.2.2.2.1 + ahd (wdR r k) (tn r (l.getD j 0)).2.2.2.1.toNat (tn r (l.getD (j + 1) 0)).2.1.toNat = _
    rw [e]
    simp only [beq_iff_eq]
    by_cases q : (tn r (l.getD j 0)).2.2.2.1 = (tn r (l.getD (j + 1) 0)).2.1
    · rw [if_pos q, if_pos (by omega)]
    · rw [if_neg q, if_neg (by omega)]
  · have t1 := turnB_iff.1 (h.turn (hi (l.length - 1) (by omega)))
    unfold enP wdP enI
    have e := key (tn r (l.getD (l.length - 1) 0)).2.2.2.1.toNat 0 0 0 (r.2.2.1 - (tn r (l.getD (l.length - 1) 0)).2.2.2.2.1) (by omega) (by omega)
    refine Prod.ext ?_ rfl
    show r.2.2.1 - (tn r (l.getD (l.length - 1) 0)).2.2.2.2.1 + ahd (wdR r k) (tn r (l.getD (l.length - 1) 0)).2.2.2.1.toNat 0 = _
    rw [e]
    simp only [beq_iff_eq]
    by_cases q : (tn r (l.getD (l.length - 1) 0)).2.2.2.1 = 0
    · rw [if_pos q, if_pos (by omega)]
    · rw [if_neg q, if_neg (by omega)]
theorem wd_plan (hp : planB r g l = true) : planB (wdR r k) g l = true ↔ ∀ x ∈ lagsL r l, x.2 = false → x.1 + k ≤ 0 := by
  obtain ⟨z, hw, _⟩ := planB_iff.1 hp
  rw [planB_lags] at hp ⊢
  simp only [Bool.and_eq_true] at hp
  obtain ⟨p1, p2, p3, p4, p5⟩ := hp
  have e3 : l.all (inR (wdR r k)) = true := p3
  have e4 : (l.all fun x => (tn (wdR r k) x).1 == g) = true := p4
  rw [p1, p2, e3, e4, wd_lags h p3 hw.ne]
  simp only [Bool.true_and, List.all_map, List.all_eq_true, Function.comp, decide_eq_true_eq]
  rw [List.all_eq_true] at p5
  constructor
  · intro q x hx hs
    have := q x hx
    unfold wdP at this
    rw [hs] at this
    simpa using this
  · intro q x hx
    have h0 := p5 x hx
    rw [decide_eq_true_eq] at h0
    unfold wdP
    cases hs : x.2 with
    | true => simpa using h0
    | false => simpa using q x hx hs
theorem f62_eq (hk : -2147483648 ≤ k ∧ k ≤ 2147483648) : M.f62 r k = some (wdR r k) := by
  have h8 := h.n8
  unfold M.f62
  refine bnd (forS_st (fun j => (List.range j).map fun a => (List.range r.2.2.2.1.length).map (wdF r k a)) rfl (by omega) fun a ha => ?_) rfl
  have e1 : idx r.2.2.2.1 (a : Int) = some (r.2.2.2.1.getD a []) := idx_getD ha
  have hrow := h.row ha
  simp only [e1, f45_id (show (r.2.2.2.1.getD a []).length ≤ 4294967295 by omega), Option.bind_eq_bind, Option.bind_some]
  have hlist : r.2.2.2.1.getD a [] = (List.range r.2.2.2.1.length).map fun b => ahd r a b := by
    apply List.ext_getElem?
    intro q
    rw [List.getElem?_map]
    by_cases hq : q < r.2.2.2.1.length
    · rw [List.getElem?_range hq]
      show _ = some ((r.2.2.2.1.getD a []).getD q 0)
      generalize r.2.2.2.1.getD a [] = row at *
      have : q < row.length := by omega
      rw [List.getD_eq_getElem?_getD, List.getElem?_eq_getElem this]; rfl
    · rw [List.getElem?_eq_none (by omega), List.getElem?_eq_none (by simp; omega)]; rfl
  refine bnd (forS_st (fun j => (List.range r.2.2.2.1.length).map fun b => if b < j then wdF r k a b else ahd r a b) ?_ (by omega) fun b hb => ?_) ?_
  · simp only [Nat.not_lt_zero, if_false]; exact hlist.symm
  · have hb' : b < r.2.2.2.1.length := by omega
    have bb := h.bnd ha hb'
    have next : ∀ z : Int, z = wdF r k a b → ((List.range r.2.2.2.1.length).map fun x => if x = b then z else if x < b then wdF r k a x else ahd r a x) = (List.range r.2.2.2.1.length).map fun x => if x < b + 1 then wdF r k a x else ahd r a x := fun z hz => by
      apply List.map_congr_left
      intro x _
      by_cases e : x = b
      · subst e; simp [hz]
      · by_cases e3 : x < b
        · rw [if_neg e, if_pos e3, if_pos (by omega)]
        · rw [if_neg e, if_neg e3, if_neg (by omega)]
    by_cases e : a = b
    · subst e
      have e4 : ((a : Int) != (a : Int)) = false := by simp
      simp only [e4, Bool.false_eq_true, if_false]
      rw [← next (ahd r a a) (by unfold wdF; rw [if_pos rfl])]
      simp only [Option.bind_some, Option.some.injEq]
      apply List.map_congr_left
      intro x _
      by_cases e : x = a
      · subst e; simp
      · simp [e]
    · have e4 : ((a : Int) != (b : Int)) = true := by rw [bne_iff_ne]; omega
      simp only [e4, if_true, idx_row hb', Nat.lt_irrefl, if_false, Option.bind_some, wr_id (show -9223372036854775808 ≤ ahd r a b + k by omega) (by omega), set1_row hb']
      rw [next _ (by unfold wdF; rw [if_neg e])]
  · have e2 : ((List.range r.2.2.2.1.length).map fun b => if b < (r.2.2.2.1.getD a []).length then wdF r k a b else ahd r a b) = (List.range r.2.2.2.1.length).map (wdF r k a) := by
      apply List.map_congr_left
      intro b hb
      rw [if_pos (by have := List.mem_range.1 hb; omega)]
    rw [e2, app_one (by simp; omega), List.range_succ, List.map_append]
    rfl
end

/-! ### clocks that are more exact -/
def lsR (r : S_api_Roster) (m : List (List Int)) : S_api_Roster := (r.1, r.2.1, r.2.2.1, m, r.2.2.2.2)
section
variable {r : S_api_Roster} (h : Vd r) {m : List (List Int)} (hm : Vd (lsR r m)) (hl : m.length = r.2.2.2.1.length)
include h hm hl
theorem f60_eq : M.f60 m r.2.2.2.1 = some ((List.range r.2.2.2.1.length).all fun a => (List.range r.2.2.2.1.length).all fun b => decide (ahd (lsR r m) a b ≤ ahd r a b)) := by
  have h8 := h.n8
  unfold M.f60
  rw [hl]
  refine bnd (forM_test (fun a => (List.range r.2.2.2.1.length).all fun b => decide (ahd (lsR r m) a b ≤ ahd r a b)) false (by omega) fun a ha _ => ?_) ?_
  · have e1 : idx m (a : Int) = some (m.getD a []) := idx_getD (by omega)
    have e2 : idx r.2.2.2.1 (a : Int) = some (r.2.2.2.1.getD a []) := idx_getD ha
    have hrm : (m.getD a []).length = r.2.2.2.1.length := by
      have := hm.row (a := a) (by show a < m.length; omega)
      show (m.getD a []).length = _
      rw [← hl]; exact this
    simp only [e1, e2, Option.bind_eq_bind, Option.bind_some, hrm]
    refine bnd (forM_test (fun b => decide (ahd (lsR r m) a b ≤ ahd r a b)) false (by omega) fun b hb _ => ?_) ?_
    · have e3 : idx (m.getD a []) (b : Int) = some (ahd (lsR r m) a b) := idx_getD (by omega)
      have e4 : idx (r.2.2.2.1.getD a []) (b : Int) = some (ahd r a b) := idx_getD (by rw [h.row ha]; exact hb)
      simp only [e3, e4, Option.bind_some]
      by_cases q : ahd (lsR r m) a b ≤ ahd r a b
      · rw [if_neg (by rw [decide_eq_true_eq]; omega), if_pos (by rw [decide_eq_true_eq]; exact q)]
      · rw [if_pos (by rw [decide_eq_true_eq]; omega), if_neg (by rw [decide_eq_true_eq]; exact q)]
    · generalize ((List.range r.2.2.2.1.length).all fun b => decide (ahd (lsR r m) a b ≤ ahd r a b)) = q
      cases q <;> rfl
  · generalize ((List.range r.2.2.2.1.length).all fun a => (List.range r.2.2.2.1.length).all fun b => decide (ahd (lsR r m) a b ≤ ahd r a b)) = q
    cases q <;> rfl
variable (hle : ∀ a b, a < r.2.2.2.1.length → b < r.2.2.2.1.length → ahd (lsR r m) a b ≤ ahd r a b) {g : Int}
include hle
omit hm hl in
theorem ls_way {l : List Int} {z : Int} (hw : Way r g l z) : Way (lsR r m) g l z := by
  have hn1 := h.n1
  induction hw with
  | @one x a b d =>
    have t := turnB_iff.1 (h.turn a)
    refine .one a b (Int.le_trans ?_ d)
    have := hle 0 (tn r x).2.1.toNat (by omega) (by omega)
    show (tn r x).2.2.1 - r.2.1 + ahd (lsR r m) 0 (tn r x).2.1.toNat ≤ (tn r x).2.2.1 - r.2.1 + ahd r 0 (tn r x).2.1.toNat
    omega
  | @snoc l x y hw hi hf hne ih =>
    have t1 := turnB_iff.1 (h.turn hw.inRx)
    have t2 := turnB_iff.1 (h.turn hi)
    obtain ⟨f1, f2, f3⟩ := foB_iff.1 hf
    have := hle (tn r x).2.2.2.1.toNat (tn r y).2.1.toNat (by omega) (by omega)
    refine .snoc ih hi (foB_iff.2 ⟨f1, f2, Int.le_trans ?_ f3⟩) hne
    show (tn r y).2.2.1 - (tn r x).2.2.2.2.1 + ahd (lsR r m) (tn r x).2.2.2.1.toNat (tn r y).2.1.toNat ≤ (tn r y).2.2.1 - (tn r x).2.2.2.2.1 + ahd r (tn r x).2.2.2.1.toNat (tn r y).2.1.toNat
    omega
omit hm hl in
theorem ls_plan {l : List Int} (hp : planB r g l = true) : planB (lsR r m) g l = true := by
  obtain ⟨z, hw, he⟩ := planB_iff.1 hp
  have hn1 := h.n1
  refine planB_iff.2 ⟨z, ls_way h hle hw, ?_⟩
  have t := turnB_iff.1 (h.turn hw.inRx)
  have := hle (tn r z).2.2.2.1.toNat 0 (by omega) (by omega)
  refine Int.le_trans ?_ he
  show r.2.2.1 - (tn r z).2.2.2.2.1 + ahd (lsR r m) (tn r z).2.2.2.1.toNat 0 ≤ r.2.2.1 - (tn r z).2.2.2.2.1 + ahd r (tn r z).2.2.2.1.toNat 0
  omega
omit h hm in
theorem ls_mom {l : List Int} (hq : ∃ s, Mom (lsR r m) l (lo0 (lsR r m)) (hi0 (lsR r m)) s) : ∃ s, Mom r l (lo0 r) (hi0 r) s := by
  obtain ⟨s, hs⟩ := hq
  have e1 : lo0 (lsR r m) = lo0 r := by unfold lo0; show (List.replicate m.length _).set 0 _ = _; rw [hl]; rfl
  have e2 : hi0 (lsR r m) = hi0 r := by unfold hi0; show (List.replicate m.length _).set 0 _ = _; rw [hl]; rfl
  rw [e1, e2] at hs
  refine ⟨s, ?_, fun a b ha hb => ?_, fun a ha => ?_, hs.gu⟩
  · have := hs.len
    show s.length = r.2.2.2.1.length
    rw [← hl]; exact this
  · exact Int.le_trans (hs.dif a b (by show a < m.length; omega) (by show b < m.length; omega)) (hle a b ha hb)
  · exact hs.bnd a (by show a < m.length; omega)
end

/-! ### one more turn -/
def mrR (r : S_api_Roster) (t : S_api_Turn) : S_api_Roster := (r.1, r.2.1, r.2.2.1, r.2.2.2.1, r.2.2.2.2 ++ [t])
section
variable {r : S_api_Roster} {t : S_api_Turn} {g : Int}
theorem mr_tn {x : Int} (hx : inR r x = true) : tn (mrR r t) x = tn r x := by
  have hx := inR_iff.1 hx
  show (r.2.2.2.2 ++ [t]).getD x.toNat _ = r.2.2.2.2.getD x.toNat _
  rw [List.getD_eq_getElem?_getD, List.getD_eq_getElem?_getD, List.getElem?_append_left (by omega)]
theorem mr_inR {x : Int} (hx : inR r x = true) : inR (mrR r t) x = true := by
  have hx := inR_iff.1 hx
  refine inR_iff.2 ⟨hx.1, ?_⟩
  show x < ((r.2.2.2.2 ++ [t]).length : Int)
  rw [List.length_append]; simp; omega
theorem mr_way {l : List Int} {x : Int} (hw : Way r g l x) : Way (mrR r t) g l x := by
  induction hw with
  | one a b d => exact .one (mr_inR a) (by rw [mr_tn a]; exact b) (by unfold bgI; rw [mr_tn a]; exact d)
  | snoc hw hi hf hne ih =>
    refine .snoc ih (mr_inR hi) ?_ hne
    unfold foB meI
    rw [mr_tn hw.inRx, mr_tn hi]
    exact hf
theorem mr_plan {l : List Int} (hp : planB r g l = true) : planB (mrR r t) g l = true := by
  obtain ⟨z, hw, he⟩ := planB_iff.1 hp
  exact planB_iff.2 ⟨z, mr_way hw, by unfold enI; rw [mr_tn hw.inRx]; exact he⟩
theorem mr_csum {l : List Int} (ha : ∀ x ∈ l, inR r x = true) : csum (mrR r t) l = csum r l := by
  induction l with
  | nil => rfl
  | cons a l ih =>
    unfold csum
    rw [ih fun x hx => ha x (List.mem_cons_of_mem _ hx)]
    unfold cs
    rw [mr_tn (ha a (List.mem_cons_self ..))]
end
theorem ite_tt {c : Bool} {X : Option Bool} (h : c = false → X = some true) : (if c = true then some true else X) = some true := by
  cases c with
  | true => rfl
  | false => exact h rfl
theorem law_WatchExact (p0 : S_api_Roster) (p1 : Int) (p2 : List Int) (p3 : List (List Int)) (p4 : S_api_Turn) : ∃ fuel, M.f12 fuel p0 p1 p2 p3 p4 = some true := by
  refine ⟨wayB p0.2.2.2.2.length + wayB (p0.2.2.2.2.length + 1) + 1000, ?_⟩
  unfold M.f12
  rw [sane_at (by omega), f33_eq (by omega)]
  simp (maxSteps := 4000000) only [Option.bind_eq_bind, Option.bind_some, Bool.not_true, Bool.false_eq_true, if_false, f17_eq (show [p2].length ≤ 4294967296 by simp)]
  cases hv : vldB p0 with
  | false => rfl
  | true =>
    have h : Vd p0 := ⟨hv⟩
    simp (maxSteps := 4000000) only [Bool.not_true, Bool.not_false, guardO_t, Option.bind_some, Bool.false_or]
    refine ite_tt fun hc => ?_
    rw [Bool.or_eq_false_iff, Bool.or_eq_false_iff, Bool.not_eq_false', decide_eq_false_iff_not, decide_eq_false_iff_not] at hc
    have hfew : fewB p0 [p2] = true := hc.1.1
    have hl : p2.length ≤ 100 := by
      unfold fewB at hfew
      simp (maxSteps := 4000000) only [List.all_cons, List.all_nil, Bool.and_true, Bool.and_eq_true, decide_eq_true_eq] at hfew
      omega
    have hg0 : 0 ≤ p1 := by omega
    have hg1 : p1 < p0.1 := by omega
    have h24 := h.len
    have hfu : wayB p0.2.2.2.2.length < wayB p0.2.2.2.2.length + wayB (p0.2.2.2.2.length + 1) + 1000 := by omega
    have hfm : wayB (mrR p0 p4).2.2.2.2.length < wayB p0.2.2.2.2.length + wayB (p0.2.2.2.2.length + 1) + 1000 := by
      have : (mrR p0 p4).2.2.2.2.length = p0.2.2.2.2.length + 1 := by show (p0.2.2.2.2 ++ [p4]).length = _; simp
      rw [this]; omega
    have hf1 : 200 < wayB p0.2.2.2.2.length + wayB (p0.2.2.2.2.length + 1) + 1000 := by omega
    generalize wayB p0.2.2.2.2.length + wayB (p0.2.2.2.2.length + 1) + 1000 = fuel at *
    obtain ⟨a, e1, ha⟩ := f34_so h hg0 hg1 hfu
    obtain ⟨a1, a2⟩ := ha.plan
    have hal := ha.len h
    -- the plan that is asked about
    obtain ⟨y, hy1, hy2, hy3⟩ : ∃ y, (if ((if planB p0 p1 p2 = true then (0 : Int) else 71) != 0) = true then some a else some p2) = some y ∧ y.length ≤ 100 ∧ (a ≠ [] → planB p0 p1 y = true) ∧ (a = [] → y = []) := by
      cases q : planB p0 p1 p2 with
      | true => exact ⟨p2, rfl, hl, fun _ => q, fun q2 => absurd q2 (a1.2 ⟨_, q⟩)⟩
      | false => exact ⟨a, rfl, by omega, a2, fun q2 => q2⟩ 
    simp (maxSteps := 4000000) only [e1, Option.bind_some, bne_self_eq_false, Bool.false_eq_true, if_false, f35_eq hl (show 100 < fuel by omega), chkP_zero h hg0 hg1, hy1]
    -- behind the first question
    have rest : ∀ {K1 K2 : Option Bool}, K1 = some true → K2 = some true → ∀ c : Bool, (if c = true then K1 else K2) = some true := fun h1 h2 c => by
      cases c with
      | true => exact h1
      | false => exact h2
    have ehr : ((p0.1, p0.2.1, p0.2.2.1, p3, p0.2.2.2.2) : S_api_Roster) = lsR p0 p3 := rfl
    simp (maxSteps := 4000000) only [ehr, f33_eq (show 32 < fuel by omega), Option.bind_some]
    -- all that follows
    have emr : ((p0.1, p0.2.1, p0.2.2.1, p0.2.2.2.1, p0.2.2.2.2 ++ [p4]) : S_api_Roster) = mrR p0 p4 := rfl
    have e61 : M.f61 p0.2.2.2.2 = some p0.2.2.2.2 := by unfold M.f61; rw [if_pos (by omega)]
    have eapp : app p0.2.2.2.2 [p4] = some (p0.2.2.2.2 ++ [p4]) := app_one (by omega)
    have hplan : (!a.isEmpty && decide (0 < (y.length : Int))) = true → a ≠ [] ∧ planB p0 p1 y = true := fun q => by
      rw [Bool.and_eq_true, Bool.not_eq_true', List.isEmpty_eq_false_iff] at q
      exact ⟨q.1, hy3.1 q.1⟩
    obtain ⟨s, hs0⟩ : ∃ s : Int, s = (lagsL p0 y).foldl spF 1048576 := ⟨_, rfl⟩
    have e57 : planB p0 p1 y = true → M.f57 fuel p0 p1 y = some (s, 0) := fun q => by
      rw [f57_eq hy2 hf1]
      unfold spaV
      rw [if_pos (gateE_of h hg0 hg1), if_pos q, sp_lags, ← hs0]
    obtain ⟨sf1, sf2, sf3⟩ := sp_facts (lagsL p0 y) 1048576
    rw [← hs0] at sf1 sf2 sf3
    have snn : planB p0 p1 y = true → 0 ≤ s := fun q => by
      rcases sf3 with e | ⟨x, hx, _, e⟩
      · omega
      · rw [planB_lags] at q
        simp (maxSteps := 4000000) only [Bool.and_eq_true] at q
        have := List.all_eq_true.1 q.2.2.2.2 x hx
        rw [decide_eq_true_eq] at this
        omega
    have tail : planB p0 p1 y = true → ((M.f57 fuel p0 p1 y).bind fun v_42 =>
        if (((v_42.2 != 0) || (decide (v_42.1 < 0))) || (decide (1048576 < v_42.1))) = true then some false
        else (M.f62 p0 v_42.1).bind fun v_44 => (M.f33 fuel v_44).bind fun v_46 => (guardO v_46 (M.f35 fuel v_44 p1 y)).bind fun v_48 =>
          if (v_46 && (v_48 != 0)) = true then some false
          else (M.f62 p0 (wr (v_42.1 + 1))).bind fun v_50 => (guardO (!(v_42.1 == 1048576)) (M.f33 fuel v_50)).bind fun v_52 => (guardO (!((v_42.1 == 1048576) || (!v_52))) (M.f35 fuel v_50 p1 y)).bind fun v_54 =>
            some (((v_42.1 == 1048576) || (!v_52)) || (v_54 == 71))) = some true := by
      intro hp
      have hsn := snn hp
      have d1 : decide (s < 0) = false := by rw [decide_eq_false_iff_not]; omega
      have d2 : decide (1048576 < s) = false := by rw [decide_eq_false_iff_not]; omega
      simp (maxSteps := 4000000) only [e57 hp, Option.bind_some, bne_self_eq_false, d1, d2, Bool.or_self, Bool.false_eq_true, if_false, f62_eq h (k := s) (by omega), f33_eq (show 32 < fuel by omega), wr_id (n := s + 1) (by omega) (by omega), f62_eq h (k := s + 1) (by omega), f35_eq hy2 (show 100 < fuel by omega)]
      have w1 : planB (wdR p0 s) p1 y = true := (wd_plan h hp).2 fun x hx hxs => by have := sf2 x hx hxs; omega
      have c1 : ∃ w, guardO (vldB (wdR p0 s)) (some (chkP (wdR p0 s) p1 y)) = some w ∧ (vldB (wdR p0 s) && (w != 0)) = false := by
        cases q : vldB (wdR p0 s) with
        | false => exact ⟨_, rfl, rfl⟩
        | true =>
          refine ⟨_, rfl, ?_⟩
          rw [chkP_zero ⟨q⟩ hg0 hg1, if_pos w1]; rfl
      obtain ⟨w, hw1, hw2⟩ := c1
      simp (maxSteps := 4000000) only [hw1, Option.bind_some, hw2, Bool.false_eq_true, if_false]
      cases q : (s == 1048576) with
      | true => simp [guardO]
      | false =>
        simp (maxSteps := 4000000) only [Bool.not_false, guardO, Option.bind_some, Bool.false_or]
        cases q2 : vldB (wdR p0 (s + 1)) with
        | false => simp
        | true =>
          have w2 : planB (wdR p0 (s + 1)) p1 y = false := by
            rw [← Bool.not_eq_true]
            intro q3
            have q3 := (wd_plan h hp).1 q3
            rcases sf3 with e | ⟨x, hx, hxs, e⟩
            · rw [e] at q; simp at q
            · have := q3 x hx hxs; omega
          simp (maxSteps := 4000000) only [Bool.not_true, Bool.not_false, Option.bind_some, Bool.false_or, chkP_zero ⟨q2⟩ (show 0 ≤ p1 from hg0) (show p1 < (wdR p0 (s + 1)).1 from hg1), w2, Bool.false_eq_true, if_false]
          rfl
    have hmore : planB p0 p1 y = true → a ≠ [] → vldB (mrR p0 p4) = true → ∃ b, M.f34 fuel (mrR p0 p4) p1 = some (b, !b.isEmpty, 0) ∧ b.isEmpty = false ∧ M.f53 (mrR p0 p4) b = some (csum (mrR p0 p4) b, 0) ∧ M.f53 p0 a = some (csum p0 a, 0) ∧ decide (csum p0 a < csum (mrR p0 p4) b) = false := by
      intro hp hne hvm
      have hm : Vd (mrR p0 p4) := ⟨hvm⟩
      obtain ⟨b, e2, hb⟩ := f34_so hm hg0 (show p1 < (mrR p0 p4).1 from hg1) hfm
      obtain ⟨b1, b2⟩ := hb.plan
      have pa := a2 hne
      have pam := mr_plan (t := p4) pa
      have hbn := b1.2 ⟨a, pam⟩
      have hle := cB_le (hb.le pam)
      obtain ⟨z, hwz, _⟩ := planB_iff.1 pa
      rw [mr_csum fun x hx => (hwz.all x hx).1] at hle
      exact ⟨b, e2, by rw [List.isEmpty_eq_false_iff]; exact hbn, plan_cost hm (b2 hbn), plan_cost h pa, by rw [decide_eq_false_iff_not]; omega⟩
    have after : (if (!(!a.isEmpty && decide (0 < (y.length : Int)))) = true then some true else
        (M.f61 p0.2.2.2.2).bind fun m_25 => (app m_25 [p4]).bind fun z_30 => (M.f33 fuel ((p0.1, p0.2.1, p0.2.2.1, p0.2.2.2.1, z_30) : S_api_Roster)).bind fun v_34 =>
        if v_34 = true then
          (M.f53 p0 a).bind fun v_36 => (M.f34 fuel ((p0.1, p0.2.1, p0.2.2.1, p0.2.2.2.1, z_30) : S_api_Roster) p1).bind fun v_38 => (M.f53 ((p0.1, p0.2.1, p0.2.2.1, p0.2.2.2.1, z_30) : S_api_Roster) v_38.1).bind fun v_40 =>
          if (((((v_36.2 != 0) || (v_38.2.2 != 0)) || (v_40.2 != 0)) || (!v_38.2.1)) || (decide (v_36.1 < v_40.1))) = true then some false
          else ((M.f57 fuel p0 p1 y).bind fun v_42 =>
            if (((v_42.2 != 0) || (decide (v_42.1 < 0))) || (decide (1048576 < v_42.1))) = true then some false
            else (M.f62 p0 v_42.1).bind fun v_44 => (M.f33 fuel v_44).bind fun v_46 => (guardO v_46 (M.f35 fuel v_44 p1 y)).bind fun v_48 =>
              if (v_46 && (v_48 != 0)) = true then some false
              else (M.f62 p0 (wr (v_42.1 + 1))).bind fun v_50 => (guardO (!(v_42.1 == 1048576)) (M.f33 fuel v_50)).bind fun v_52 => (guardO (!((v_42.1 == 1048576) || (!v_52))) (M.f35 fuel v_50 p1 y)).bind fun v_54 =>
                some (((v_42.1 == 1048576) || (!v_52)) || (v_54 == 71)))
        else ((M.f57 fuel p0 p1 y).bind fun v_42 =>
            if (((v_42.2 != 0) || (decide (v_42.1 < 0))) || (decide (1048576 < v_42.1))) = true then some false
            else (M.f62 p0 v_42.1).bind fun v_44 => (M.f33 fuel v_44).bind fun v_46 => (guardO v_46 (M.f35 fuel v_44 p1 y)).bind fun v_48 =>
              if (v_46 && (v_48 != 0)) = true then some false
              else (M.f62 p0 (wr (v_42.1 + 1))).bind fun v_50 => (guardO (!(v_42.1 == 1048576)) (M.f33 fuel v_50)).bind fun v_52 => (guardO (!((v_42.1 == 1048576) || (!v_52))) (M.f35 fuel v_50 p1 y)).bind fun v_54 =>
                some (((v_42.1 == 1048576) || (!v_52)) || (v_54 == 71)))) = some true := by
      cases hpl : (!a.isEmpty && decide (0 < (y.length : Int))) with
      | false => rfl
      | true =>
        obtain ⟨hne, hp⟩ := hplan hpl
        simp (maxSteps := 4000000) only [Bool.not_true, Bool.false_eq_true, if_false, e61, eapp, emr, Option.bind_some, f33_eq (show 32 < fuel by omega)]
        cases hvm : vldB (mrR p0 p4) with
        | false =>
          simp (maxSteps := 4000000) only [Bool.false_eq_true, if_false]
          have := tail hp
          simp (maxSteps := 4000000) only [f33_eq (show 32 < fuel by omega)] at this
          exact this
        | true =>
          obtain ⟨b, k1, k2, k3, k4, k5⟩ := hmore hp hne hvm
          simp (maxSteps := 4000000) only [if_true, k4, k1, k2, k3, k5, Option.bind_some, bne_self_eq_false, Bool.not_false, Bool.not_true, Bool.or_self, Bool.false_eq_true, if_false]
          have := tail hp
          simp (maxSteps := 4000000) only [f33_eq (show 32 < fuel by omega)] at this
          exact this
    simp (maxSteps := 4000000) only [f33_eq (show 32 < fuel by omega), Option.bind_some] at after
    cases hc1 : (vldB (lsR p0 p3) && ((p3.length : Int) == (p0.2.2.2.1.length : Int))) with
    | false =>
      simp (maxSteps := 4000000) only [guardO, Option.bind_some, Bool.false_and, Bool.false_eq_true, if_false]
      exact after
    | true =>
      rw [Bool.and_eq_true, beq_iff_eq] at hc1
      have hm : Vd (lsR p0 p3) := ⟨hc1.1⟩
      have hlen : p3.length = p0.2.2.2.1.length := by omega
      have e60 : guardO true (M.f60 p3 p0.2.2.2.1) = some ((List.range p0.2.2.2.1.length).all fun a => (List.range p0.2.2.2.1.length).all fun b => decide (ahd (lsR p0 p3) a b ≤ ahd p0 a b)) := f60_eq h hm hlen
      refine bnd e60 ?_
      cases hle0 : ((List.range p0.2.2.2.1.length).all fun a => (List.range p0.2.2.2.1.length).all fun b => decide (ahd (lsR p0 p3) a b ≤ ahd p0 a b)) with
      | false => exact after
      | true =>
        have hle : ∀ a b, a < p0.2.2.2.1.length → b < p0.2.2.2.1.length → ahd (lsR p0 p3) a b ≤ ahd p0 a b := by
          simp only [List.all_eq_true, List.mem_range, decide_eq_true_eq] at hle0
          exact fun a b ha hb => hle0 a ha b hb
        have g1 : ∃ w, guardO (!a.isEmpty && decide (0 < (y.length : Int))) (M.f35 fuel (lsR p0 p3) p1 y) = some w ∧ ((!a.isEmpty && decide (0 < (y.length : Int))) && (w != 0)) = false := by
          rw [f35_eq hy2 (show 100 < fuel by omega)]
          cases hpl : (!a.isEmpty && decide (0 < (y.length : Int))) with
          | false => exact ⟨_, rfl, rfl⟩
          | true =>
            obtain ⟨hne, hp⟩ := hplan hpl
            refine ⟨_, rfl, ?_⟩
            rw [chkP_zero hm hg0 (show p1 < (lsR p0 p3).1 from hg1), if_pos (ls_plan h hle hp)]; rfl
        obtain ⟨w, hw1, hw2⟩ := g1
        refine Eq.trans (if_pos rfl) ?_
        refine bnd hw1 ?_
        refine Eq.trans (if_neg (by rw [hw2]; simp)) ?_
        have ebar : barE (lsR p0 p3) p1 y = barE p0 p1 y := by
          unfold barE
          rw [gateE_of h hg0 hg1, gateE_of hm hg0 (show p1 < (lsR p0 p3).1 from hg1)]
          rfl
        rcases f29_so (r := p0) (g := p1) hy2 hf1 with ⟨q, e29⟩ | ⟨q, v, e29, hv⟩
        · rcases f29_so (r := lsR p0 p3) (g := p1) hy2 hf1 with ⟨_, e30⟩ | ⟨q2, _⟩
          · rw [ebar] at e30
            refine bnd e29 (bnd e30 ?_)
            exact Eq.trans (if_neg (by simp)) after
          · rw [ebar] at q2; exact absurd q2 q
        · rcases f29_so (r := lsR p0 p3) (g := p1) hy2 hf1 with ⟨q2, _⟩ | ⟨_, u, e30, hu⟩
          · rw [ebar] at q2; exact absurd q q2
          · have k : (!v.2 && u.2) = false := by
              rcases hv with ⟨t, _⟩ | ⟨t, hno⟩
              · rw [t]; rfl
              · rcases hu with ⟨_, hmu⟩ | ⟨t2, _⟩
                · exact absurd (ls_mom hlen hle ⟨_, hmu⟩) hno
                · rw [t2]; simp
            have k2 : ((((0 : Int) != 0) || ((((0 : Int) == 0) && !v.2) && u.2))) = false := by
              show (false || ((true && !v.2) && u.2)) = false
              rw [Bool.false_or, Bool.true_and, k]
            refine bnd e29 (bnd e30 ?_)
            exact Eq.trans (if_neg (by rw [k2]; simp)) after
end Go.Proofs.YthogdhepjcomjaaGreatDoor
