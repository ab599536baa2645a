/-
  What is proved: the least moment within bounds; what the program's search for a moment without a guard finds.
-/
import Derived.Test.YthogdhepjcomjaaGreatDoorWatT
import Derived.Test.YthogdhepjcomjaaGreatDoorModelK
namespace Go.Proofs.YthogdhepjcomjaaGreatDoor
open Go Go.Proofs.YthogdhepjcomjaaGreatDoor.Wh

/-- The least number that a clock shows, by the bounds of the first so many clocks. -/
def lsI (r : S_api_Roster) (lo : List Int) (c : Nat) : Nat → Int
  | 0 => -33554432
  | a + 1 => imax (lsI r lo c a) (lo.getD a 0 - ahd r a c)
theorem imax_le {m n k : Int} : imax m n ≤ k ↔ m ≤ k ∧ n ≤ k := by unfold imax; split <;> omega
theorem lsI_le {r : S_api_Roster} {lo : List Int} {c : Nat} {k : Int} : ∀ {n : Nat}, lsI r lo c n ≤ k ↔ -33554432 ≤ k ∧ ∀ a, a < n → lo.getD a 0 - ahd r a c ≤ k
  | 0 => by simp [lsI]
  | n + 1 => by
    rw [lsI, imax_le, lsI_le]
    constructor
    · rintro ⟨⟨h1, h2⟩, h3⟩
      refine ⟨h1, fun a ha => ?_⟩
      by_cases e : a = n
      · subst e; exact h3
      · exact h2 a (by omega)
    · rintro ⟨h1, h2⟩
      exact ⟨⟨h1, fun a ha => h2 a (by omega)⟩, h2 n (by omega)⟩
/-- Bounds of what clocks show. -/
structure Bds (r : S_api_Roster) (lo hi : List Int) : Prop where
  ll : lo.length = r.2.2.2.1.length
  lh : hi.length = r.2.2.2.1.length
  bl : ∀ a, a < r.2.2.2.1.length → -67108864 ≤ lo.getD a 0 ∧ lo.getD a 0 ≤ 67108864
  bh : ∀ a, a < r.2.2.2.1.length → -67108864 ≤ hi.getD a 0 ∧ hi.getD a 0 ≤ 67108864
  l0 : 0 ≤ lo.getD 0 0
/-- A moment within bounds at which none of some turns guards. -/
structure Mom (r : S_api_Roster) (l : List Int) (lo hi s : List Int) : Prop where
  len : s.length = r.2.2.2.1.length
  dif : ∀ a b, a < r.2.2.2.1.length → b < r.2.2.2.1.length → s.getD a 0 - s.getD b 0 ≤ ahd r a b
  bnd : ∀ a, a < r.2.2.2.1.length → lo.getD a 0 ≤ s.getD a 0 ∧ s.getD a 0 ≤ hi.getD a 0
  gu : ∀ x ∈ l, guB (tn r x) s = false
theorem get_map {n : Nat} {F : Nat → Int} {a : Nat} (ha : a < n) : ((List.range n).map F).getD a 0 = F a := by
  rw [List.getD_eq_getElem?_getD, List.getElem?_map, List.getElem?_range ha]; rfl
theorem get_set {l : List Int} {j a : Nat} {z : Int} (hj : j < l.length) : (l.set j z).getD a 0 = if a = j then z else l.getD a 0 := by
  rw [List.getD_eq_getElem?_getD, List.getElem?_set, List.getD_eq_getElem?_getD]
  by_cases e : j = a
  · subst e; simp [hj]
  · rw [if_neg e, if_neg (fun q => e q.symm)]
theorem set_at {l : List Int} {j : Nat} {z : Int} (hj : j < l.length) : set1 l (j : Int) z = some (l.set j z) := by
  unfold set1
  rw [if_neg (by omega), if_pos (by simpa using hj)]
  rfl
section
variable {r : S_api_Roster} (h : Vd r)
include h
theorem least_mom {lo hi : List Int} (hb : Bds r lo hi) (hle : ∀ c, c < r.2.2.2.1.length → lsI r lo c r.2.2.2.1.length ≤ hi.getD c 0) : Mom r [] lo hi ((List.range r.2.2.2.1.length).map fun c => lsI r lo c r.2.2.2.1.length) := by
  have hn := h.n1
  have key : ∀ c, c < r.2.2.2.1.length → ∀ a, a < r.2.2.2.1.length → lo.getD a 0 - ahd r a c ≤ lsI r lo c r.2.2.2.1.length := fun c hc a ha => (lsI_le.1 (Int.le_refl _)).2 a ha
  refine ⟨by simp, fun a b ha hb2 => ?_, fun a ha => ?_, fun x hx => by cases hx⟩
  · rw [get_map ha, get_map hb2]
    have : lsI r lo a r.2.2.2.1.length ≤ lsI r lo b r.2.2.2.1.length + ahd r a b := by
      rw [lsI_le]
      constructor
      · have := key b hb2 0 (by omega)
        have := h.bnd ha hb2
        have := h.bnd (a := 0) (by omega) hb2
        have := hb.l0
        omega
      · intro a' ha'
        have := key b hb2 a' ha'
        have := h.way ha' ha hb2
        omega
    omega
  · rw [get_map ha]
    have h1 := key a ha a ha
    rw [h.zero ha] at h1
    exact ⟨by omega, hle a ha⟩
omit h in
theorem mom_least {lo hi s : List Int} (hm : Mom r [] lo hi s) (hs : ∀ c, c < r.2.2.2.1.length → -33554432 ≤ s.getD c 0) {c : Nat} (hc : c < r.2.2.2.1.length) : lsI r lo c r.2.2.2.1.length ≤ hi.getD c 0 := by
  refine Int.le_trans (lsI_le.2 ⟨hs c hc, fun a ha => ?_⟩) (hm.bnd c hc).2
  have := hm.dif a c ha hc
  have := hm.bnd a ha
  omega
theorem Mom.low {l lo hi s : List Int} (hb : Bds r lo hi) (hm : Mom r l lo hi s) {c : Nat} (hc : c < r.2.2.2.1.length) : -1048576 ≤ s.getD c 0 := by
  have hn := h.n1
  have h1 := hm.dif 0 c (by omega) hc
  have h2 := hm.bnd 0 (by omega)
  have h3 := h.bnd (a := 0) (by omega) hc
  have h4 := hb.l0
  omega
theorem f152_eq {lo hi : List Int} (hb : Bds r lo hi) : M.f152 (lo, hi) r = some (if (List.range r.2.2.2.1.length).all (fun c => decide (lsI r lo c r.2.2.2.1.length ≤ hi.getD c 0)) = true then ((List.range r.2.2.2.1.length).map fun c => lsI r lo c r.2.2.2.1.length, true) else ([], false)) := by
  have h8 := h.n8
  unfold M.f152
  refine bnd (forM_st (fun k => (List.range k).map fun c => lsI r lo c r.2.2.2.1.length) (fun c => if decide (lsI r lo c r.2.2.2.1.length ≤ hi.getD c 0) = true then none else some (([] : List Int), false)) rfl (by omega) fun c hc _ => ?_) ?_
  · have inner : (forS 0 (r.2.2.2.1.length : Int) ((-33554432) : Int) fun i_8 s_10 =>
      (idx r.2.2.2.1 i_8) >>= fun v_14 =>
      (idx lo i_8) >>= fun v_16 =>
      (idx v_14 (c : Int)) >>= fun v_18 =>
      some (imax s_10 (wr (v_16 - v_18)))) = some (lsI r lo c r.2.2.2.1.length) := by
      refine forS_st (fun a => lsI r lo c a) rfl (by omega) fun a ha => ?_
      have e1 : idx r.2.2.2.1 (a : Int) = some (r.2.2.2.1.getD a []) := idx_getD ha
      have e2 : idx lo (a : Int) = some (lo.getD a 0) := idx_getD (by rw [hb.ll]; exact ha)
      have e3 : idx (r.2.2.2.1.getD a []) (c : Int) = some (ahd r a c) := idx_getD (by rw [h.row ha]; exact hc)
      have b1 := hb.bl a ha
      have b2 := h.bnd ha hc
      simp only [e1, e2, e3, Option.bind_eq_bind, Option.bind_some]
      rw [wr_id (by omega) (by omega)]
      rfl
    have e4 : idx hi (c : Int) = some (hi.getD c 0) := idx_getD (by rw [hb.lh]; exact hc)
    rw [inner]
    simp only [e4, Option.bind_eq_bind, Option.bind_some]
    by_cases q : lsI r lo c r.2.2.2.1.length ≤ hi.getD c 0
    · rw [if_neg (by rw [decide_eq_true_eq]; omega), if_pos (by rw [decide_eq_true_eq]; exact q), app_one (by simp; omega), List.range_succ, List.map_append]
      rfl
    · rw [if_pos (by rw [decide_eq_true_eq]; omega), if_neg (by rw [decide_eq_true_eq]; exact q)]
  · rw [findAll]
    generalize ((List.range r.2.2.2.1.length).all fun c => decide (lsI r lo c r.2.2.2.1.length ≤ hi.getD c 0)) = v
    cases v <;> rfl
omit h in
theorem f45_id {l : List Int} (hl : l.length ≤ 4294967295) : M.f45 l = some l := by
  unfold M.f45
  rw [if_pos (by omega)]
omit h in
theorem guB_false {t : S_api_Turn} {s : List Int} : guB t s = false ↔ s.getD t.2.1.toNat 0 ≤ t.2.2.1 - 1 ∨ t.2.2.2.2.1 ≤ s.getD t.2.2.2.1.toNat 0 := by
  unfold guB
  rw [Bool.and_eq_false_iff, decide_eq_false_iff_not, decide_eq_false_iff_not]
  omega
/-- What the search finds. -/
def Fnd (r : S_api_Roster) (l lo hi : List Int) (v : List Int × Bool) : Prop := (v.2 = true ∧ Mom r l lo hi v.1) ∨ (v = ([], false) ∧ ¬ ∃ s, Mom r l lo hi s)
theorem f106_so : ∀ (l lo hi : List Int) (fuel : Nat), l.length < fuel → l.all (inR r) = true → Bds r lo hi → ∃ v, M.f106 fuel r l (lo, hi) = some v ∧ Fnd r l lo hi v
  | [], lo, hi, fuel + 1, _, _, hb => by
    refine ⟨_, (by
      unfold M.f106
      rw [if_pos (by simp), f152_eq h hb]
      rfl : M.f106 (fuel + 1) r [] (lo, hi) = some (if (List.range r.2.2.2.1.length).all (fun c => decide (lsI r lo c r.2.2.2.1.length ≤ hi.getD c 0)) = true then ((List.range r.2.2.2.1.length).map fun c => lsI r lo c r.2.2.2.1.length, true) else ([], false))), ?_⟩
    · skip
      by_cases q : (List.range r.2.2.2.1.length).all (fun c => decide (lsI r lo c r.2.2.2.1.length ≤ hi.getD c 0)) = true
      · rw [if_pos q]
        rw [List.all_eq_true] at q
        exact .inl ⟨rfl, least_mom h hb fun c hc => by simpa using q c (List.mem_range.2 hc)⟩
      · rw [if_neg q]
        refine .inr ⟨rfl, fun ⟨s, hs⟩ => q ?_⟩
        rw [List.all_eq_true]
        intro c hc
        rw [decide_eq_true_eq]
        exact mom_least hs (fun c hc => by have := hs.low h hb hc; omega) (List.mem_range.1 hc)
  | x :: l, lo, hi, fuel + 1, hf, ha, hb => by
    rw [List.all_cons, Bool.and_eq_true] at ha
    have tx := turnB_iff.1 (h.turn ha.1)
    have h8 := h.n8
    rw [List.length_cons] at hf
    obtain ⟨ck, hck⟩ : ∃ k : Nat, (tn r x).2.1 = (k : Int) := ⟨(tn r x).2.1.toNat, by omega⟩
    obtain ⟨ck2, hck2⟩ : ∃ k : Nat, (tn r x).2.2.2.1 = (k : Int) := ⟨(tn r x).2.2.2.1.toNat, by omega⟩
    have hcn : ck < r.2.2.2.1.length := by omega
    have hcn2 : ck2 < r.2.2.2.1.length := by omega
    have e1 : idx hi (ck : Int) = some (hi.getD ck 0) := idx_getD (by rw [hb.lh]; exact hcn)
    have e2 : idx lo (ck2 : Int) = some (lo.getD ck2 0) := idx_getD (by rw [hb.ll]; exact hcn2)
    have b1 := hb.bh ck hcn
    have b2 := hb.bl ck2 hcn2
    have hb1 : Bds r lo (hi.set ck (imin (hi.getD ck 0) ((tn r x).2.2.1 - 1))) := by
      refine ⟨hb.ll, by rw [List.length_set]; exact hb.lh, hb.bl, fun a ha => ?_, hb.l0⟩
      rw [get_set (by rw [hb.lh]; exact hcn)]
      have := hb.bh a ha
      unfold imin
      split
      · split <;> omega
      · exact this
    have hb2 : Bds r (lo.set ck2 (imax (lo.getD ck2 0) (tn r x).2.2.2.2.1)) hi := by
      refine ⟨by rw [List.length_set]; exact hb.ll, hb.lh, fun a ha => ?_, hb.bh, ?_⟩
      · rw [get_set (by rw [hb.ll]; exact hcn2)]
        have := hb.bl a ha
        unfold imax
        split
        · split <;> omega
        · exact this
      · rw [get_set (by rw [hb.ll]; exact hcn2)]
        have := hb.l0
        unfold imax
        split
        · rename_i e; subst e; split <;> omega
        · exact this
    obtain ⟨v1, f1, s1⟩ := f106_so l lo _ fuel (by omega) ha.2 hb1
    obtain ⟨v2, f2, s2⟩ := f106_so l _ hi fuel (by omega) ha.2 hb2
    have m1 : ∀ s, Mom r l lo (hi.set ck (imin (hi.getD ck 0) ((tn r x).2.2.1 - 1))) s ↔ Mom r l lo hi s ∧ s.getD ck 0 ≤ (tn r x).2.2.1 - 1 := fun s => by
      constructor
      · intro hm
        have hbk := hm.bnd ck hcn
        rw [get_set (by rw [hb.lh]; exact hcn), if_pos rfl] at hbk
        refine ⟨⟨hm.len, hm.dif, fun a ha => ?_, hm.gu⟩, ?_⟩
        · have := hm.bnd a ha
          rw [get_set (by rw [hb.lh]; exact hcn)] at this
          split at this
          · rename_i e; subst e; unfold imin at this; split at this <;> omega
          · exact this
        · unfold imin at hbk; split at hbk <;> omega
      · rintro ⟨hm, hle⟩
        refine ⟨hm.len, hm.dif, fun a ha => ?_, hm.gu⟩
        have := hm.bnd a ha
        rw [get_set (by rw [hb.lh]; exact hcn)]
        split
        · rename_i e; subst e; unfold imin; split <;> omega
        · exact this
    have m2 : ∀ s, Mom r l (lo.set ck2 (imax (lo.getD ck2 0) (tn r x).2.2.2.2.1)) hi s ↔ Mom r l lo hi s ∧ (tn r x).2.2.2.2.1 ≤ s.getD ck2 0 := fun s => by
      constructor
      · intro hm
        have hbk := hm.bnd ck2 hcn2
        rw [get_set (by rw [hb.ll]; exact hcn2), if_pos rfl] at hbk
        refine ⟨⟨hm.len, hm.dif, fun a ha => ?_, hm.gu⟩, ?_⟩
        · have := hm.bnd a ha
          rw [get_set (by rw [hb.ll]; exact hcn2)] at this
          split at this
          · rename_i e; subst e; unfold imax at this; split at this <;> omega
          · exact this
        · unfold imax at hbk; split at hbk <;> omega
      · rintro ⟨hm, hle⟩
        refine ⟨hm.len, hm.dif, fun a ha => ?_, hm.gu⟩
        have := hm.bnd a ha
        rw [get_set (by rw [hb.ll]; exact hcn2)]
        split
        · rename_i e; subst e; unfold imax; split <;> omega
        · exact this
    have mx : ∀ s, Mom r (x :: l) lo hi s ↔ Mom r l lo hi s ∧ (s.getD ck 0 ≤ (tn r x).2.2.1 - 1 ∨ (tn r x).2.2.2.2.1 ≤ s.getD ck2 0) := fun s => by
      have ek : (tn r x).2.1.toNat = ck := by omega
      have ek2 : (tn r x).2.2.2.1.toNat = ck2 := by omega
      constructor
      · intro hm
        refine ⟨⟨hm.len, hm.dif, hm.bnd, fun y hy => hm.gu y (List.mem_cons_of_mem _ hy)⟩, ?_⟩
        have := guB_false.1 (hm.gu x (List.mem_cons_self ..))
        rwa [ek, ek2] at this
      · rintro ⟨hm, hd⟩
        refine ⟨hm.len, hm.dif, hm.bnd, fun y hy => ?_⟩
        rcases List.mem_cons.1 hy with e | hy
        · subst e
          rw [guB_false, ek, ek2]; exact hd
        · exact hm.gu y hy
    have ecut : cutF (x :: l) 1 = some l := by unfold cutF; rw [if_pos (by simp)]; rfl
    have ei0 : idx (x :: l) 0 = some x := rfl
    unfold M.f106
    rw [if_neg (by simp; omega)]
    simp only [ei0, Vd.idxT ha.1, f45_id (show hi.length ≤ 4294967295 by rw [hb.lh]; omega), f45_id (show lo.length ≤ 4294967295 by rw [hb.ll]; omega), hck, hck2, e1, e2, set_at (show ck < hi.length by rw [hb.lh]; exact hcn), set_at (show ck2 < lo.length by rw [hb.ll]; exact hcn2), wr_id (show -9223372036854775808 ≤ (tn r x).2.2.1 - 1 by omega) (by omega), ecut, f1, f2, Option.bind_eq_bind, Option.bind_some]
    rcases s1 with ⟨t1, mo1⟩ | ⟨t1, no1⟩
    · rw [if_pos t1]
      refine ⟨_, rfl, .inl ⟨rfl, (mx _).2 ?_⟩⟩
      have := (m1 _).1 mo1
      exact ⟨this.1, .inl this.2⟩
    · rw [t1, if_neg (by simp)]
      refine ⟨_, rfl, ?_⟩
      rcases s2 with ⟨t2, mo2⟩ | ⟨t2, no2⟩
      · refine .inl ⟨t2, (mx _).2 ?_⟩
        have := (m2 _).1 mo2
        exact ⟨this.1, .inr this.2⟩
      · rw [t2]
        refine .inr ⟨rfl, fun ⟨s, hs⟩ => ?_⟩
        obtain ⟨q1, q2 | q2⟩ := (mx s).1 hs
        · exact no1 ⟨s, (m1 s).2 ⟨q1, q2⟩⟩
        · exact no2 ⟨s, (m2 s).2 ⟨q1, q2⟩⟩
end
end Go.Proofs.YthogdhepjcomjaaGreatDoor
