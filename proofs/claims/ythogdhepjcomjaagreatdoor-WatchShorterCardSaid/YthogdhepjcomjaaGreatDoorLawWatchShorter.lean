/-
  What is proved: for all rosters, gates, lists and times the model of WatchShorter returns true.
-/
import Derived.Test.YthogdhepjcomjaaGreatDoorWatQ
import Derived.Test.YthogdhepjcomjaaGreatDoorModelR
namespace Go.Proofs.YthogdhepjcomjaaGreatDoor
open Go Go.Proofs.YthogdhepjcomjaaGreatDoor.Wh

/-- A shorter watch. -/
def shR (r : S_api_Roster) (a b : Int) : S_api_Roster := (r.1, a, b, r.2.2.2.1, r.2.2.2.2)
section
variable {r : S_api_Roster} (h : Vd r) {a b g : Int} (ha : r.2.1 ≤ a) (hb : b ≤ r.2.2.1)
theorem sh_vd (h : Vd r) (ha : r.2.1 ≤ a) (hb : b ≤ r.2.2.1) (hab : a < b) : Vd (shR r a b) := by
  have h1 := hdB_iff.1 h.hd
  have hd : hdB (shR r a b) = true := hdB_iff.2 (by
    show 1 ≤ r.1 ∧ r.1 ≤ 8 ∧ 0 ≤ a ∧ a < b ∧ b ≤ 16777216 ∧ 1 ≤ (r.2.2.2.1.length : Int) ∧ (r.2.2.2.1.length : Int) ≤ 8 ∧ (r.2.2.2.2.length : Int) ≤ 24
    omega)
  refine ⟨?_⟩
  have h2 := h.h
  unfold vldB at h2 ⊢
  simp only [Bool.and_eq_true] at h2 ⊢
  exact ⟨⟨⟨hd, h2.1.1.2⟩, h2.1.2⟩, h2.2⟩
include ha in
theorem sh_bg (x : Int) : bgI (shR r a b) x ≤ bgI r x := by
  show (tn r x).2.2.1 - a + ahd r 0 (tn r x).2.1.toNat ≤ (tn r x).2.2.1 - r.2.1 + ahd r 0 (tn r x).2.1.toNat
  omega
include hb in
theorem sh_en (x : Int) : enI (shR r a b) x ≤ enI r x := by
  show b - (tn r x).2.2.2.2.1 + ahd r (tn r x).2.2.2.1.toNat 0 ≤ r.2.2.1 - (tn r x).2.2.2.2.1 + ahd r (tn r x).2.2.2.1.toNat 0
  omega
include ha in
theorem sh_way {l : List Int} {x : Int} (hw : Way r g l x) : Way (shR r a b) g l x := by
  induction hw with
  | one p q d => exact .one p q (Int.le_trans (sh_bg ha _) d)
  | snoc _ hi hf hn ih => exact .snoc ih hi hf hn
include ha hb in
theorem sh_plan {l : List Int} (hp : planB r g l = true) : planB (shR r a b) g l = true := by
  obtain ⟨z, hw, he⟩ := planB_iff.1 hp
  exact planB_iff.2 ⟨z, sh_way ha hw, Int.le_trans (sh_en hb _) he⟩
end
theorem cost_ways {r : S_api_Roster} (h : Vd r) {g : Int} {l : List Int} (hp : planB r g l = true) : M.f53 r l = some (csum r l, 0) := by
  obtain ⟨z, hw, _⟩ := planB_iff.1 hp
  have hg := (hw.good h)
  rw [f53_eq (by omega)]
  unfold cosV
  have e : (l.all (inR r) && difB l) = true := by rw [hg.1.1, difB_iff.2 hw.nodup]; rfl
  rw [if_pos h.h, if_pos e, sumW_eq h (by omega) l.length (Nat.le_refl _), List.take_length]
theorem law_WatchShorter (p0 : S_api_Roster) (p1 : Int) (p2 : List Int) (p3 p4 : Int) : ∃ fuel, M.f13 fuel p0 p1 p2 p3 p4 = some true := by
  refine ⟨wayB p0.2.2.2.2.length + 1000, ?_⟩
  unfold M.f13
  rw [sane_at (by omega), f33_eq (by omega)]
  simp only [Option.bind_eq_bind, Option.bind_some, Bool.not_true, Bool.false_eq_true, if_false, f17_eq (show [p2].length ≤ 4294967296 by simp)]
  cases hv : vldB p0 with
  | false => rfl
  | true =>
    have h : Vd p0 := ⟨hv⟩
    simp only [Bool.not_true, Bool.not_false, guardO_t, Option.bind_some, Bool.false_or]
    split
    · rfl
    rename_i hc
    simp only [Bool.or_eq_true, Bool.not_eq_true', decide_eq_true_eq] at hc
    have hfew : fewB p0 [p2] = true := by
      cases q : fewB p0 [p2] with
      | true => rfl
      | false => exact absurd (.inl (.inl (.inl (.inl (.inl q))))) hc
    have hl : p2.length ≤ 100 := by
      unfold fewB at hfew
      simp only [List.all_cons, List.all_nil, Bool.and_true, Bool.and_eq_true, decide_eq_true_eq] at hfew
      omega
    have hg0 : 0 ≤ p1 := by omega
    have hg1 : p1 < p0.1 := by omega
    have ha3 : p0.2.1 ≤ p3 := by omega
    have hb4 : p4 ≤ p0.2.2.1 := by omega
    have hm : Vd (shR p0 p3 p4) := sh_vd h ha3 hb4 (by omega)
    have em : ((p0.1, p3, p4, p0.2.2.2.1, p0.2.2.2.2) : S_api_Roster) = shR p0 p3 p4 := rfl
    have hgm : p1 < (shR p0 p3 p4).1 := hg1
    have hfu : wayB p0.2.2.2.2.length < wayB p0.2.2.2.2.length + 1000 := by omega
    have hfm : wayB (shR p0 p3 p4).2.2.2.2.length < wayB p0.2.2.2.2.length + 1000 := hfu
    have hf1 : 100 < wayB p0.2.2.2.2.length + 1000 := by omega
    rw [em]
    generalize wayB p0.2.2.2.2.length + 1000 = fuel at *
    obtain ⟨a, e1, hba⟩ := f34_so h hg0 hg1 hfu
    obtain ⟨b, e2, hbb⟩ := f34_so hm hg0 hgm hfm
    obtain ⟨a1, a2⟩ := hba.plan
    obtain ⟨b1, b2⟩ := hbb.plan
    have hal := hba.len h
    have imp : a ≠ [] → b ≠ [] := fun q => b1.2 ⟨a, sh_plan ha3 hb4 (a2 q)⟩
    have c1 : (a.isEmpty = false → b.isEmpty = false) := fun q => by rw [List.isEmpty_eq_false_iff] at *; exact imp q
    have e3 : (!a.isEmpty && !!b.isEmpty) = false := by
      cases qa : a.isEmpty with
      | true => rfl
      | false => rw [c1 qa]; rfl
    simp only [e1, e2, Option.bind_some, bne_self_eq_false, e3, Bool.or_self, Bool.false_eq_true, if_false, f35_eq hl hf1, f35_eq (show a.length ≤ 100 by omega) hf1, f25_eq hl hf1, chkP_zero h hg0 hg1, chkP_zero hm hg0 hgm]
    -- what is checked
    have k1 : ∀ w, guardO ((if planB p0 p1 p2 = true then (0 : Int) else 71) == 0) (some (if planB (shR p0 p3 p4) p1 p2 = true then (0 : Int) else 71)) = some w → (((if planB p0 p1 p2 = true then (0 : Int) else 71) == 0) && (w != 0)) = false := fun w hw => by
      cases q : planB p0 p1 p2 with
      | false => rfl
      | true =>
        rw [q, if_pos rfl, if_pos (sh_plan ha3 hb4 q)] at hw
        have : w = 0 := by
          have : some (0 : Int) = some w := hw
          cases this; rfl
        subst this; rfl
    obtain ⟨w, hw⟩ : ∃ w, guardO ((if planB p0 p1 p2 = true then (0 : Int) else 71) == 0) (some (if planB (shR p0 p3 p4) p1 p2 = true then (0 : Int) else 71)) = some w := by
      cases ((if planB p0 p1 p2 = true then (0 : Int) else 71) == 0) <;> exact ⟨_, rfl⟩
    have k1 := k1 w hw
    rw [hw]
    simp only [Option.bind_some, k1, Bool.not_false, guardO, Bool.true_and, Bool.false_or]
    have k2 : chkG (shR p0 p3 p4) p1 p2 = 0 → planB p0 p1 a = false := fun q => by
      cases q2 : planB p0 p1 a with
      | false => rfl
      | true => exact absurd ⟨a, sh_plan ha3 hb4 q2⟩ (gap_rch q)
    have k3 : ∀ w, guardO (chkG (shR p0 p3 p4) p1 p2 == 0) (some (if planB p0 p1 a = true then (0 : Int) else 71)) = some w → ((chkG (shR p0 p3 p4) p1 p2 == 0) && (w == 0)) = false := fun w hw => by
      cases q : (chkG (shR p0 p3 p4) p1 p2 == 0) with
      | false => rfl
      | true =>
        rw [q, k2 (by simpa using q)] at hw
        have : w = 71 := by
          have : some (71 : Int) = some w := hw
          cases this; rfl
        subst this; rfl
    obtain ⟨w2, hw2⟩ : ∃ w, guardO (chkG (shR p0 p3 p4) p1 p2 == 0) (some (if planB p0 p1 a = true then (0 : Int) else 71)) = some w := by
      cases (chkG (shR p0 p3 p4) p1 p2 == 0) <;> exact ⟨_, rfl⟩
    have k3 := k3 w2 hw2
    refine bnd hw2 ?_
    simp only [k3, Bool.false_eq_true, if_false]
    cases qa : a.isEmpty with
    | true => rfl
    | false =>
      rw [List.isEmpty_eq_false_iff] at qa
      have pa := a2 qa
      have pb := b2 (imp qa)
      have pm := sh_plan ha3 hb4 pa
      have hle := cB_le (hbb.le pm)
      have hle2 : csum p0 b ≤ csum p0 a := by
        have ecs : csum (shR p0 p3 p4) = csum p0 := by
          funext l
          induction l with
          | nil => rfl
          | cons x l ih => unfold csum; rw [ih]; rfl
        rw [ecs] at hle; exact hle
      have eb : csum (shR p0 p3 p4) b = csum p0 b := by
        clear hle hle2 pb imp c1 e3 b1 b2 hbb e2
        induction b with
        | nil => rfl
        | cons x l ih => unfold csum; rw [ih]; rfl
      simp only [pm, if_true, Bool.not_false, Bool.not_true, Bool.false_eq_true, if_false, bne_self_eq_false, cost_ways h pa, cost_ways hm pb, Option.bind_some, eb, decide_eq_true hle2]
      rfl
end Go.Proofs.YthogdhepjcomjaaGreatDoor
