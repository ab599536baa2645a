/-
  What is proved: for all rosters, gates and lists the model of WatchNeeds returns true.
-/
import Derived.Test.YthogdhepjcomjaaGreatDoorWatT
import Derived.Test.YthogdhepjcomjaaGreatDoorModelO
namespace Go.Proofs.YthogdhepjcomjaaGreatDoor
open Go Go.Proofs.YthogdhepjcomjaaGreatDoor.Wh

/-! ### turns that are needed -/
def wiT (t : S_api_Turn) : S_api_Turn := (8, t.2.1, t.2.2.1, t.2.2.2.1, t.2.2.2.2.1, t.2.2.2.2.2)
/-- A roster in which a turn is one of no gate. -/
def wiR (r : S_api_Roster) (j : Nat) : S_api_Roster := (r.1, r.2.1, r.2.2.1, r.2.2.2.1, r.2.2.2.2.set j (wiT (tnJ r j)))
section
variable {r : S_api_Roster} (h : Vd r) {g : Int} {j : Nat} (hj : j < r.2.2.2.2.length)
include hj
theorem wi_tn (x : Int) (hx : inR r x = true) : tn (wiR r j) x = if x = (j : Int) then wiT (tn r x) else tn r x := by
  have hx := inR_iff.1 hx
  obtain ⟨k, rfl⟩ : ∃ k : Nat, x = (k : Int) := ⟨x.toNat, by omega⟩
  have hk : k < r.2.2.2.2.length := by omega
  show (r.2.2.2.2.set j (wiT (tnJ r j))).getD k (0, 0, 0, 0, 0, 0) = _
  rw [List.getD_eq_getElem?_getD, List.getElem?_set]
  by_cases e : j = k
  · subst e
    rw [if_pos rfl, if_pos hj, if_pos rfl]
    rfl
  · rw [if_neg e, if_neg (by omega)]
    show _ = r.2.2.2.2.getD k (0, 0, 0, 0, 0, 0)
    rw [List.getD_eq_getElem?_getD]
omit hj in
theorem wi_inR (x : Int) : inR (wiR r j) x = inR r x := by
  unfold inR wiR
  simp only [List.length_set]
theorem wi_rest (x : Int) (hx : inR r x = true) : (tn (wiR r j) x).2 = (tn r x).2 := by
  rw [wi_tn hj x hx]
  split
  · rfl
  · rfl
theorem wi_gate (x : Int) (hx : inR r x = true) : (tn (wiR r j) x).1 = if x = (j : Int) then 8 else (tn r x).1 := by
  rw [wi_tn hj x hx]
  split
  · rfl
  · rfl
theorem wi_bg (x : Int) (hx : inR r x = true) : bgI (wiR r j) x = bgI r x := by
  unfold bgI
  rw [wi_rest hj x hx]; rfl
theorem wi_en (x : Int) (hx : inR r x = true) : enI (wiR r j) x = enI r x := by
  unfold enI
  rw [wi_rest hj x hx]; rfl
theorem wi_me (x y : Int) (hx : inR r x = true) (hy : inR r y = true) : meI (wiR r j) x y = meI r x y := by
  unfold meI
  rw [wi_rest hj x hx, wi_rest hj y hy]; rfl
include h
theorem wi_vw : Vw (wiR r j) := by
  have hn1 := h.n1
  refine ⟨by show (r.2.2.2.2.set j (wiT (tnJ r j))).length ≤ 24; rw [List.length_set]; exact h.len, fun x => ?_, fun {x} hx => ?_, fun {x} hx => ?_, fun {x y} hx hy => ?_⟩
  · by_cases hx : x.toNat < r.2.2.2.2.length
    · have h1 := h.cs (x.toNat : Int)
      have hr : inR r (x.toNat : Int) = true := inR_iff.2 ⟨by omega, by omega⟩
      have e : cs (wiR r j) x = cs r (x.toNat : Int) := by
        show (tn (wiR r j) (x.toNat : Int)).2.2.2.2.2 = _
        rw [wi_rest hj _ hr]; rfl
      rw [e]; exact h1
    · unfold cs tn
      rw [List.getD_eq_getElem?_getD, List.getElem?_eq_none (by show (r.2.2.2.2.set j (wiT (tnJ r j))).length ≤ _; rw [List.length_set]; omega)]
      simp
  · have hr : inR r x = true := by rw [← wi_inR (j := j)]; exact hx
    have ht := turnB_iff.1 (h.turn hr)
    have e1 := Vd.idxA (r := wiR r j) (a := 0) (by omega) (by show (0 : Int) < (r.2.2.2.1.length : Int); omega)
    have e2 : idx (r.2.2.2.1.getD (0 : Int).toNat []) (tn r x).2.1 = some (ahd r (0 : Int).toNat (tn r x).2.1.toNat) := h.idxB (by omega) (by omega) (by omega) (by omega)
    unfold M.f83
    have e3 : idx (wiR r j).2.2.2.2 x = some (tn (wiR r j) x) := Vd.idxT hx
    have e4 : ((wiR r j).2.2.2.1.getD (0 : Int).toNat [] : List Int) = r.2.2.2.1.getD (0 : Int).toNat [] := rfl
    simp only [e3, e1, Option.bind_eq_bind, Option.bind_some, wi_rest hj x hr, e4, e2]
    rw [wi_bg hj x hr, ← h.bgL hr]; rfl
  · have hr : inR r x = true := by rw [← wi_inR (j := j)]; exact hx
    have ht := turnB_iff.1 (h.turn hr)
    have e1 := Vd.idxA (r := wiR r j) (a := (tn r x).2.2.2.1) (by omega) (by show (tn r x).2.2.2.1 < (r.2.2.2.1.length : Int); omega)
    have e2 : idx (r.2.2.2.1.getD (tn r x).2.2.2.1.toNat []) 0 = some (ahd r (tn r x).2.2.2.1.toNat (0 : Int).toNat) := h.idxB (by omega) (by omega) (by omega) (by omega)
    unfold M.f98
    have e3 : idx (wiR r j).2.2.2.2 x = some (tn (wiR r j) x) := Vd.idxT hx
    have e4 : ((wiR r j).2.2.2.1.getD (tn r x).2.2.2.1.toNat [] : List Int) = r.2.2.2.1.getD (tn r x).2.2.2.1.toNat [] := rfl
    simp only [e3, e1, Option.bind_eq_bind, Option.bind_some, wi_rest hj x hr, e4, e2]
    rw [wi_en hj x hr, ← h.enL hr]; rfl
  · have hr : inR r x = true := by rw [← wi_inR (j := j)]; exact hx
    have hr2 : inR r y = true := by rw [← wi_inR (j := j)]; exact hy
    have ht := turnB_iff.1 (h.turn hr)
    have hu := turnB_iff.1 (h.turn hr2)
    have e1 := Vd.idxA (r := wiR r j) (a := (tn r x).2.2.2.1) (by omega) (by show (tn r x).2.2.2.1 < (r.2.2.2.1.length : Int); omega)
    have e2 : idx (r.2.2.2.1.getD (tn r x).2.2.2.1.toNat []) (tn r y).2.1 = some (ahd r (tn r x).2.2.2.1.toNat (tn r y).2.1.toNat) := h.idxB (by omega) (by omega) (by omega) (by omega)
    have e3 : idx (wiR r j).2.2.2.2 x = some (tn (wiR r j) x) := Vd.idxT hx
    have e5 : idx (wiR r j).2.2.2.2 y = some (tn (wiR r j) y) := Vd.idxT hy
    have e4 : ((wiR r j).2.2.2.1.getD (tn r x).2.2.2.1.toNat [] : List Int) = r.2.2.2.1.getD (tn r x).2.2.2.1.toNat [] := rfl
    have em := h.meL hr hr2
    have ew := wi_me hj x y hr hr2
    unfold M.f84 foB
    simp only [e3, e5, Option.bind_eq_bind, Option.bind_some]
    cases ne : (x != y) with
    | false => simp [guardO]
    | true =>
      cases gt : ((tn (wiR r j) x).1 == (tn (wiR r j) y).1) with
      | false => simp [guardO]
      | true =>
        simp only [guardO, Bool.true_and, Bool.and_self, e1, e2, e4, Option.bind_some, wi_rest hj x hr, wi_rest hj y hr2, ew, ← em]
omit h in
theorem wi_way (h8 : g ≠ 8) {l : List Int} {x : Int} : Way (wiR r j) g l x ↔ Way r g l x ∧ ¬ (j : Int) ∈ l := by
  constructor
  · intro hw
    have hn : ¬ (j : Int) ∈ l := fun hm => by
      obtain ⟨a, b⟩ := hw.all _ hm
      rw [wi_inR] at a
      rw [wi_gate hj _ a, if_pos rfl] at b
      exact h8 b.symm
    refine ⟨?_, hn⟩
    induction hw with
    | @one x a b d =>
      rw [wi_inR] at a
      rw [wi_gate hj _ a, if_neg (fun e => hn (by rw [e]; simp))] at b
      rw [wi_bg hj _ a] at d
      exact .one a b d
    | @snoc l x y hw hi hf hne ih =>
      have hn2 : ¬ (j : Int) ∈ l := fun q => hn (List.mem_append_left _ q)
      have ih := ih hn2
      rw [wi_inR] at hi
      refine .snoc ih hi ?_ hne
      obtain ⟨f1, f2, f3⟩ := foB_iff.1 hf
      have hxj : ¬ x = (j : Int) := fun e => hn2 (by obtain ⟨p, hp⟩ := ih.last; rw [hp, ← e]; simp)
      rw [wi_gate hj _ ih.inRx, wi_gate hj _ hi, if_neg hxj, if_neg (fun e => hn (by rw [← e]; simp))] at f2
      rw [wi_me hj _ _ ih.inRx hi] at f3
      exact foB_iff.2 ⟨f1, f2, f3⟩
  · rintro ⟨hw, hn⟩
    induction hw with
    | @one x a b d => exact .one (by rw [wi_inR]; exact a) (by rw [wi_gate hj _ a, if_neg (fun e => hn (by rw [e]; simp))]; exact b) (by rw [wi_bg hj _ a]; exact d)
    | @snoc l x y hw hi hf hne ih =>
      have hn2 : ¬ (j : Int) ∈ l := fun q => hn (List.mem_append_left _ q)
      refine .snoc (ih hn2) (by rw [wi_inR]; exact hi) ?_ hne
      obtain ⟨f1, f2, f3⟩ := foB_iff.1 hf
      have hxj : ¬ x = (j : Int) := fun e => hn2 (by obtain ⟨p, hp⟩ := hw.last; rw [hp, ← e]; simp)
      refine foB_iff.2 ⟨f1, ?_, ?_⟩
      · rw [wi_gate hj _ hw.inRx, wi_gate hj _ hi, if_neg hxj, if_neg (fun e => hn (by rw [← e]; simp))]; exact f2
      · rw [wi_me hj _ _ hw.inRx hi]; exact f3
omit h in
/-- Without a turn there is a plan. -/
theorem wi_plan (h8 : g ≠ 8) : (∃ l, planB (wiR r j) g l = true) ↔ (rchL r g (j : Int)).any (fun x => decide (enI r x ≤ 0)) = true := by
  rw [List.any_eq_true]
  constructor
  · rintro ⟨l, hl⟩
    obtain ⟨z, hw, he⟩ := planB_iff.1 hl
    obtain ⟨h1, h2⟩ := (wi_way hj h8).1 hw
    rw [wi_en hj _ h1.inRx] at he
    exact ⟨z, rchL_mem.2 (h1.rch h2), by simpa using he⟩
  · rintro ⟨x, hx, he⟩
    obtain ⟨l, h1, h2⟩ := (rchL_mem.1 hx).way
    exact ⟨l, planB_iff.2 ⟨x, (wi_way hj h8).2 ⟨h1, h2⟩, by rw [wi_en hj _ h1.inRx]; simpa using he⟩⟩
theorem f126_eq : M.f126 r (j : Int) = some (wiR r j) := by
  have h24 := h.len
  have e1 : app ([] : List S_api_Turn) r.2.2.2.2 = some r.2.2.2.2 := by unfold app; rw [if_pos (by simp; omega)]; rfl
  have e2 : idx r.2.2.2.2 (j : Int) = some (tnJ r j) := idx_getD hj
  have e3 : set1 r.2.2.2.2 (j : Int) (wiT (tnJ r j)) = some (r.2.2.2.2.set j (wiT (tnJ r j))) := by
    unfold set1
    rw [if_neg (by omega), if_pos (by simpa using hj)]; rfl
  have e3' : set1 r.2.2.2.2 (j : Int) (8, (tnJ r j).2.1, (tnJ r j).2.2.1, (tnJ r j).2.2.2.1, (tnJ r j).2.2.2.2.1, (tnJ r j).2.2.2.2.2) = some (r.2.2.2.2.set j (wiT (tnJ r j))) := e3
  unfold M.f126
  simp only [e1, e2, e3', Option.bind_eq_bind, Option.bind_some]
  rfl
end
open Classical in
/-- What Needed returns. -/
noncomputable def neeV (r : S_api_Roster) (g : Int) : List Int × Int :=
  if gateE r g = 0 then (if (rchL r g (-1)).any (fun x => decide (enI r x ≤ 0)) = true then (selI (fun j => (tnJ r j).1 == g && !((rchL r g (j : Int)).any fun x => decide (enI r x ≤ 0))) r.2.2.2.2.length, 0) else ([], 4)) else ([], gateE r g)
theorem f55_eq {r : S_api_Roster} {g : Int} {fuel : Nat} (hf : 25 < fuel) : M.f55 fuel r g = some (neeV r g) := by
  unfold M.f55 neeV
  rw [f73_eq]
  simp only [Option.bind_eq_bind, Option.bind_some]
  by_cases q : ¬ gateE r g = 0
  · rw [if_pos (by simpa using q), if_neg q]
  replace q : gateE r g = 0 := by omega
  obtain ⟨h, hg0, hg1⟩ := gateE_zero q
  have h24 := h.len
  have hl : ∀ w, (rchL r g w).length ≤ 4294967296 := fun w => by have := rchL_len (r := r) (g := g) (w := w); omega
  rw [if_neg (by simp [q]), if_pos q, f74_eq h hf]
  simp only [Option.bind_some, f77_eq h (hl (-1)) (fun x hx => (rchL_mem.1 hx).inRx)]
  cases hv : (rchL r g (-1)).any (fun x => decide (enI r x ≤ 0)) with
  | false => rfl
  | true =>
    simp only [Bool.not_true, Bool.false_eq_true, if_false, if_true]
    rw [f90_eq (fun j => !((rchL r g (j : Int)).any fun x => decide (enI r x ≤ 0))) h24 fun j _ _ => ?_]
    · rfl
    · unfold M.f125
      simp only [f74_eq h hf, f77_eq h (hl (j : Int)) (fun x hx => (rchL_mem.1 hx).inRx), Option.bind_eq_bind, Option.bind_some]
theorem f56_eq {r : S_api_Roster} {g : Int} {fuel : Nat} (hf : 40000000 < fuel) : M.f56 fuel r g = some (neeV r g) := by
  unfold M.f56 neeV
  rw [f75_eq (by omega)]
  simp only [Option.bind_eq_bind, Option.bind_some]
  by_cases q : ¬ gateE r g = 0
  · rw [if_pos (by simpa using q), if_neg q]
  replace q : gateE r g = 0 := by omega
  obtain ⟨h, hg0, hg1⟩ := gateE_zero q
  have h24 := h.len
  have h8 : g ≠ 8 := by have := hdB_iff.1 h.hd; omega
  rw [if_neg (by simp [q]), if_pos q]
  obtain ⟨l, e, hb⟩ := f78_so h.toVw (g := g) (fw := false) hf
  obtain ⟨b1, b2⟩ := hb.plan
  rw [e]
  simp only [Option.bind_some]
  by_cases hp : ∃ l, planB r g l = true
  · have hne := b1.2 hp
    have e0 : ((l.length : Int) == 0) = false := by rw [beq_eq_false_iff_ne]; have := List.length_pos_iff.2 hne; omega
    rw [if_neg (by rw [e0]; simp), if_pos (rch_late.2 hp)]
    refine bnd (loopM_go (N := r.2.2.2.2.length) (fun j : Nat => ((j : Int), selI (fun j => (tnJ r j).1 == g && !((rchL r g (j : Int)).any fun x => decide (enI r x ≤ 0))) j)) (selI (fun j => (tnJ r j).1 == g && !((rchL r g (j : Int)).any fun x => decide (enI r x ≤ 0))) r.2.2.2.2.length) rfl (by omega) (fun j hj => ?_) (by simp)) rfl
    obtain ⟨l2, e2, hb2⟩ := f78_so (wi_vw h hj) (g := g) (fw := false) hf
    obtain ⟨c1, c2⟩ := hb2.plan
    have hlen := selI_len (fun j => (tnJ r j).1 == g && !((rchL r g (j : Int)).any fun x => decide (enI r x ≤ 0))) j
    have key : ((l2.length : Int) == 0) = ((tnJ r j).1 == g && !((rchL r g (j : Int)).any fun x => decide (enI r x ≤ 0))) := by
      have hpl := wi_plan hj h8
      cases hv : (rchL r g (j : Int)).any (fun x => decide (enI r x ≤ 0)) with
      | true =>
        have := c1.2 (hpl.2 hv)
        have := List.length_pos_iff.2 this
        rw [Bool.not_true, Bool.and_false, beq_eq_false_iff_ne]
        omega
      | false =>
        have e3 : l2 = [] := by
          by_cases q2 : l2 = []
          · exact q2
          · have := hpl.1 (c1.1 q2)
            rw [hv] at this; cases this
        have hg : (tnJ r j).1 = g := by
          refine Classical.byContradiction fun hg => ?_
          -- a plan of the gate has no such turn
          obtain ⟨l3, hl3⟩ := hp
          obtain ⟨z, hw, he⟩ := planB_iff.1 hl3
          have hn : ¬ (j : Int) ∈ l3 := fun hm => hg (hw.all _ hm).2
          have : (rchL r g (j : Int)).any (fun x => decide (enI r x ≤ 0)) = true := List.any_eq_true.2 ⟨z, rchL_mem.2 (hw.rch hn), by simpa using he⟩
          rw [hv] at this; cases this
        rw [e3, hg]; simp
    simp only [lt_dec hj, if_true, f126_eq h hj, e2, Option.bind_some, key, selI_succ, wr_succ (show j < 4294967296 by omega)]
    cases ((tnJ r j).1 == g && !((rchL r g (j : Int)).any fun x => decide (enI r x ≤ 0))) with
    | false => simp
    | true => simp only [if_true, app_one (show (selI (fun j => (tnJ r j).1 == g && !((rchL r g (j : Int)).any fun x => decide (enI r x ≤ 0))) j).length ≤ 4294967295 by omega), Option.bind_some]
  · have e0 : l = [] := by
      by_cases q2 : l = []
      · exact q2
      · exact absurd (b1.1 q2) hp
    subst e0
    rw [if_pos (by simp), if_neg (fun q2 => hp (rch_late.1 q2))]

/-! ### by how much clocks could be less exact -/
def spF (s : Int) (x : S_watch_lag) : Int := if x.2 = true then s else imin s (0 - x.1)
theorem spF_comm (s : Int) (x y : S_watch_lag) : spF (spF s x) y = spF (spF s y) x := by
  unfold spF imin
  repeat' split
  all_goals first
    | rfl
    | omega
theorem spF_fold (y : S_watch_lag) : ∀ (l : List S_watch_lag) (s : Int), l.foldl spF (spF s y) = spF (l.foldl spF s) y
  | [], _ => rfl
  | x :: l, s => by rw [List.foldl_cons, List.foldl_cons, spF_comm, spF_fold y l]
section
variable {r : S_api_Roster} {g : Int} {l : List Int}
def spG (r : S_api_Roster) (l : List Int) (s : Int) (j : Nat) : Int := ((List.range j).map (meP r l)).foldl spF s
theorem spG_succ {s : Int} {j : Nat} : spG r l s (j + 1) = spF (spG r l s j) (meP r l j) := by
  unfold spG
  rw [List.range_succ, List.map_append, List.foldl_append]; rfl
def spaV (r : S_api_Roster) (g : Int) (l : List Int) : Int × Int := if gateE r g = 0 then (if planB r g l = true then (spF (spG r l (spF 1048576 (bgP r l)) (l.length - 1)) (enP r l), 0) else (0, 71)) else (0, gateE r g)
theorem f57_eq {fuel : Nat} (hl2 : l.length ≤ 100) (hf : 200 < fuel) : M.f57 fuel r g l = some (spaV r g l) := by
  unfold M.f57 spaV
  rw [f73_eq]
  simp only [Option.bind_eq_bind, Option.bind_some]
  by_cases q : ¬ gateE r g = 0
  · rw [if_pos (by simpa using q), if_neg q]
  replace q : gateE r g = 0 := by omega
  obtain ⟨h, hg0, hg1⟩ := gateE_zero q
  have ht := h.time
  have hn1 := h.n1
  rw [if_neg (by simp [q]), if_pos q, f118_eq h hl2 (by omega)]
  simp only [Option.bind_some]
  cases hp : planB r g l with
  | false => rfl
  | true =>
    obtain ⟨z, hw, he⟩ := planB_iff.1 hp
    have hne := List.length_pos_iff.2 hw.ne
    have ha : l.all (inR r) = true := List.all_eq_true.2 fun x hx => (hw.all x hx).1
    have step : ∀ (s : Int) (x : S_watch_lag), -2147483648 ≤ x.1 ∧ x.1 ≤ 2147483648 → M.f128 x s = some (spF s x) := fun s x hx => by
      unfold M.f128 spF
      rw [wr_id (n := 0 - x.1) (by omega) (by omega)]
      cases x.2 <;> rfl
    have hi : ∀ k, k < l.length → inR r (l.getD k 0) = true := fun k hk => all_get ha hk
    have bb : ∀ x y, inR r x = true → inR r y = true → -2147483648 ≤ meI r x y ∧ meI r x y ≤ 2147483648 := fun x y hx hy => by
      have t1 := turnB_iff.1 (h.turn hx)
      have t2 := turnB_iff.1 (h.turn hy)
      have := h.bnd (a := (tn r x).2.2.2.1.toNat) (b := (tn r y).2.1.toNat) (by omega) (by omega)
      unfold meI; omega
    simp only [Bool.not_true, Bool.false_eq_true, if_false, if_true]
    refine bnd (f127_eq h (fun j => spG r l (spF 1048576 (bgP r l)) j) (spF (spG r l (spF 1048576 (bgP r l)) (l.length - 1)) (enP r l)) hne (by omega) (by omega) ha ?_ (fun j hj => ?_) ?_) rfl
    · have t1 := turnB_iff.1 (h.turn (hi 0 hne))
      have := h.bnd (a := 0) (b := (tn r (l.getD 0 0)).2.1.toNat) (by omega) (by omega)
      rw [step _ _ (by show -2147483648 ≤ bgI r (l.getD 0 0) ∧ bgI r (l.getD 0 0) ≤ 2147483648; unfold bgI; omega)]
      rfl
    · rw [step _ _ (bb _ _ (hi j (by omega)) (hi (j + 1) hj)), spG_succ]
    · have t1 := turnB_iff.1 (h.turn (hi (l.length - 1) (by omega)))
      have := h.bnd (a := (tn r (l.getD (l.length - 1) 0)).2.2.2.1.toNat) (b := 0) (by omega) (by omega)
      rw [step _ _ (by show -2147483648 ≤ enI r (l.getD (l.length - 1) 0) ∧ enI r (l.getD (l.length - 1) 0) ≤ 2147483648; unfold enI; omega)]
theorem f58_eq {fuel : Nat} (hl2 : l.length ≤ 100) (hf : 200 < fuel) : M.f58 fuel r g l = some (spaV r g l) := by
  unfold M.f58 spaV
  rw [f75_eq (by omega)]
  simp only [Option.bind_eq_bind, Option.bind_some]
  by_cases q : ¬ gateE r g = 0
  · rw [if_pos (by simpa using q), if_neg q]
  replace q : gateE r g = 0 := by omega
  obtain ⟨h, hg0, hg1⟩ := gateE_zero q
  have ht := h.time
  have hn1 := h.n1
  rw [if_neg (by simp [q]), if_pos q, f129_eq h hg0 hl2 (by omega)]
  simp only [Option.bind_some]
  cases hp : planB r g l with
  | false => rfl
  | true =>
    obtain ⟨z, hw, he⟩ := planB_iff.1 hp
    have hne := List.length_pos_iff.2 hw.ne
    have ha : l.all (inR r) = true := List.all_eq_true.2 fun x hx => (hw.all x hx).1
    have hi : ∀ k, k < l.length → inR r (l.getD k 0) = true := fun k hk => all_get ha hk
    have i0 : idx l 0 = some (l.getD 0 0) := idx_getD (j := 0) hne
    have iL : idx l (wr ((l.length : Int) - 1)) = some (l.getD (l.length - 1) 0) := by
      rw [wr_id (by omega) (by omega), show (l.length : Int) - 1 = ((l.length - 1 : Nat) : Int) by omega]
      exact idx_getD (by omega)
    have tF := turnB_iff.1 (h.turn (hi 0 hne))
    have tL := turnB_iff.1 (h.turn (hi (l.length - 1) (by omega)))
    have a0 : idx r.2.2.2.1 0 = some (r.2.2.2.1.getD (0 : Int).toNat []) := Vd.idxA (by omega) (by omega)
    have b0 : idx (r.2.2.2.1.getD (0 : Int).toNat []) (tn r (l.getD 0 0)).2.1 = some (ahd r (0 : Int).toNat (tn r (l.getD 0 0)).2.1.toNat) := h.idxB (by omega) (by omega) (by omega) (by omega)
    have aL : idx r.2.2.2.1 (tn r (l.getD (l.length - 1) 0)).2.2.2.1 = some (r.2.2.2.1.getD (tn r (l.getD (l.length - 1) 0)).2.2.2.1.toNat []) := Vd.idxA (by omega) (by omega)
    have bL : idx (r.2.2.2.1.getD (tn r (l.getD (l.length - 1) 0)).2.2.2.1.toNat []) 0 = some (ahd r (tn r (l.getD (l.length - 1) 0)).2.2.2.1.toNat (0 : Int).toNat) := h.idxB (by omega) (by omega) (by omega) (by omega)
    have w0 : wr (wr (r.2.1 - (tn r (l.getD 0 0)).2.2.1) - ahd r (0 : Int).toNat (tn r (l.getD 0 0)).2.1.toNat) = 0 - bgI r (l.getD 0 0) := by
      have := h.bnd (a := (0 : Int).toNat) (b := (tn r (l.getD 0 0)).2.1.toNat) (by omega) (by omega)
      rw [wr_id (n := r.2.1 - (tn r (l.getD 0 0)).2.2.1) (by omega) (by omega), wr_id (by omega) (by omega)]
      unfold bgI
      show _ - ahd r 0 _ = _
      omega
    have wL : wr (wr ((tn r (l.getD (l.length - 1) 0)).2.2.2.2.1 - r.2.2.1) - ahd r (tn r (l.getD (l.length - 1) 0)).2.2.2.1.toNat (0 : Int).toNat) = 0 - enI r (l.getD (l.length - 1) 0) := by
      have := h.bnd (a := (tn r (l.getD (l.length - 1) 0)).2.2.2.1.toNat) (b := (0 : Int).toNat) (by omega) (by omega)
      rw [wr_id (n := (tn r (l.getD (l.length - 1) 0)).2.2.2.2.1 - r.2.2.1) (by omega) (by omega), wr_id (by omega) (by omega)]
      unfold enI
      show _ - ahd r _ 0 = _
      omega
    simp only [Bool.not_true, Bool.false_eq_true, if_false, if_true, i0, iL, Vd.idxT (hi 0 hne), Vd.idxT (hi (l.length - 1) (by omega)), a0, b0, aL, bL, Option.bind_some, w0, wL]
    have c0 : (if ((tn r (l.getD 0 0)).2.1 != 0) = true then some (imin 1048576 (0 - bgI r (l.getD 0 0))) else some 1048576) = some (spF 1048576 (bgP r l)) := by
      unfold spF bgP
      by_cases e : (tn r (l.getD 0 0)).2.1 = 0
      · rw [if_neg (by rw [e]; simp), if_pos (by rw [e]; rfl)]
      · rw [if_pos (by rw [bne_iff_ne]; exact e), if_neg (by rw [beq_iff_eq]; exact fun q => e q.symm)]
    have cL : ∀ s, (if ((tn r (l.getD (l.length - 1) 0)).2.2.2.1 != 0) = true then some (imin s (0 - enI r (l.getD (l.length - 1) 0))) else some s) = some (spF s (enP r l)) := fun s => by
      unfold spF enP
      by_cases e : (tn r (l.getD (l.length - 1) 0)).2.2.2.1 = 0
      · rw [if_neg (by rw [e]; simp), if_pos (by rw [e]; rfl)]
      · rw [if_pos (by rw [bne_iff_ne]; exact e), if_neg (by rw [beq_iff_eq]; exact e)]
    rw [c0]
    simp only [Option.bind_some, cL]
    refine bnd (loopM_go (N := l.length - 1) (fun j : Nat => (spG r l (spF (spF 1048576 (bgP r l)) (enP r l)) j, ((j + 1 : Nat) : Int))) (spG r l (spF (spF 1048576 (bgP r l)) (enP r l)) (l.length - 1)) rfl (by omega) (fun j hj => ?_) ?_) ?_
    · have j1 : idx l (wr (((j + 1 : Nat) : Int) - 1)) = some (l.getD j 0) := by
        rw [wr_id (by omega) (by omega), show (((j + 1 : Nat) : Int) - 1) = (j : Int) by omega]
        exact idx_getD (by omega)
      have j2 : idx l ((j + 1 : Nat) : Int) = some (l.getD (j + 1) 0) := idx_getD (by omega)
      have t1 := turnB_iff.1 (h.turn (hi j (by omega)))
      have t2 := turnB_iff.1 (h.turn (hi (j + 1) (by omega)))
      have a1 : idx r.2.2.2.1 (tn r (l.getD j 0)).2.2.2.1 = some (r.2.2.2.1.getD (tn r (l.getD j 0)).2.2.2.1.toNat []) := Vd.idxA (by omega) (by omega)
      have b1 : idx (r.2.2.2.1.getD (tn r (l.getD j 0)).2.2.2.1.toNat []) (tn r (l.getD (j + 1) 0)).2.1 = some (ahd r (tn r (l.getD j 0)).2.2.2.1.toNat (tn r (l.getD (j + 1) 0)).2.1.toNat) := h.idxB (by omega) (by omega) (by omega) (by omega)
      have w1 : wr (wr ((tn r (l.getD j 0)).2.2.2.2.1 - (tn r (l.getD (j + 1) 0)).2.2.1) - ahd r (tn r (l.getD j 0)).2.2.2.1.toNat (tn r (l.getD (j + 1) 0)).2.1.toNat) = 0 - meI r (l.getD j 0) (l.getD (j + 1) 0) := by
        have := h.bnd (a := (tn r (l.getD j 0)).2.2.2.1.toNat) (b := (tn r (l.getD (j + 1) 0)).2.1.toNat) (by omega) (by omega)
        rw [wr_id (n := (tn r (l.getD j 0)).2.2.2.2.1 - (tn r (l.getD (j + 1) 0)).2.2.1) (by omega) (by omega), wr_id (by omega) (by omega)]
        unfold meI
        omega
      simp only [lt_dec (show j + 1 < l.length by omega), if_true, j1, j2, Vd.idxT (hi j (by omega)), Vd.idxT (hi (j + 1) (by omega)), a1, b1, Option.bind_some, w1, wr_succ (show j + 1 < 4294967296 by omega), spG_succ]
      generalize spG r l (spF (spF 1048576 (bgP r l)) (enP r l)) j = s
      unfold spF meP
      by_cases e : (tn r (l.getD j 0)).2.2.2.1 = (tn r (l.getD (j + 1) 0)).2.1
      · rw [if_neg (by rw [e]; simp), if_pos (by rw [e]; simp)]; rfl
      · rw [if_pos (by rw [bne_iff_ne]; exact e), if_neg (by rw [beq_iff_eq]; exact e)]; rfl
    · have : decide (((l.length - 1 + 1 : Nat) : Int) < (l.length : Int)) = false := by rw [decide_eq_false_iff_not]; omega
      rw [if_neg (by rw [this]; simp)]
    · simp only [Option.some.injEq, Prod.mk.injEq, and_true]
      unfold spG
      exact spF_fold _ _ _
end
theorem law_WatchNeeds (p0 : S_api_Roster) (p1 : Int) (p2 : List Int) : ∃ fuel, M.f10 fuel p0 p1 p2 = some true := by
  obtain ⟨fuel, hf⟩ : ∃ fuel : Nat, fuel = 50000000 := ⟨_, rfl⟩
  have hf1 : 40000000 < fuel := by omega
  refine ⟨fuel, ?_⟩
  clear hf
  unfold M.f10
  rw [sane_at (by omega), f17_eq (by simp)]
  simp only [Option.bind_eq_bind, Option.bind_some, Bool.not_true, Bool.false_eq_true, if_false]
  cases hq : fewB p0 [p2] with
  | false => rfl
  | true =>
    have hl : p2.length ≤ 100 ∧ p0.2.2.2.2.length ≤ 100 := by
      unfold fewB at hq
      simp only [List.all_cons, List.all_nil, Bool.and_true, Bool.and_eq_true, decide_eq_true_eq] at hq
      omega
    have hn : (neeV p0 p1).1.length ≤ 4294967296 := by
      unfold neeV
      split
      · split
        · exact Nat.le_trans (selI_len _ _) (by omega)
        · exact Nat.zero_le _
      · exact Nat.zero_le _
    simp only [f55_eq (show 25 < fuel by omega), f56_eq hf1, f57_eq hl.1 (show 200 < fuel by omega), f58_eq hl.1 (show 200 < fuel by omega), Option.bind_some, f24_eq hn, beq_self_eq_true, Bool.and_true, Bool.not_true, Bool.false_eq_true, if_false]
end Go.Proofs.YthogdhepjcomjaaGreatDoor
