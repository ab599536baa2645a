/-
  What is proved: the specification's least weights are least weights.
-/
import Derived.Test.YthogdhepjcomjaaGreatDoorWatQ
import Derived.Test.YthogdhepjcomjaaGreatDoorModelH
namespace Go.Proofs.YthogdhepjcomjaaGreatDoor
open Go Go.Proofs.YthogdhepjcomjaaGreatDoor.Wh

/-- What a turn weighs. -/
def wtI (r : S_api_Roster) (fw : Bool) (x : Int) : Int := if fw = true then 1048576 + cs r x else 64 * cs r x + 1
/-- What is known of a roster whose turns may be of gates that are not there. -/
structure Vw (r : S_api_Roster) : Prop where
  len : r.2.2.2.2.length ≤ 24
  cs : ∀ x, 0 ≤ cs r x ∧ cs r x ≤ 10000
  e83 : ∀ {x : Int}, inR r x = true → M.f83 r x = some (decide (bgI r x ≤ 0))
  e98 : ∀ {x : Int}, inR r x = true → M.f98 r x = some (decide (enI r x ≤ 0))
  e84 : ∀ {x y : Int}, inR r x = true → inR r y = true → M.f84 r x y = some (foB r x y)
theorem Vw.wt {r : S_api_Roster} (h : Vw r) (fw : Bool) (x : Int) : 1 ≤ wtI r fw x ∧ wtI r fw x ≤ 1058576 := by
  have := h.cs x
  unfold wtI
  split <;> omega
def upI (R : Int → Int) (j z : Int) : Int → Int := fun i => if i = j then z else R i
/-- What is so of the weights while they are bettered: they are those of runs, and no more than those of runs that are not longer than so much. -/
structure Bet (r : S_api_Roster) (g : Int) (w : Int → Int) (t : Nat) (R : Int → Int) : Prop where
  att : ∀ i, inR r i = true → R i < far → ∃ l, Run r g i l ∧ sumf w l = R i
  rng : ∀ i, inR r i = true → 0 ≤ R i ∧ R i ≤ far
  cov : ∀ i l, Run r g i l → l.length ≤ t → R i ≤ sumf w l
/-- One betters the other. -/
theorem Bet.step {r : S_api_Roster} (h : Vw r) {g : Int} {fw : Bool} {t : Nat} {R : Int → Int} (hb : Bet r g (wtI r fw) t R) {i k : Int} (hi : inR r i = true) (hg : (tn r i).1 = g) (hk : inR r k = true) (hf : foB r i k = true) (hlt : R k < far) :
    Bet r g (wtI r fw) t (upI R i (imin (R i) (R k + wtI r fw i))) ∧ (∀ j, upI R i (imin (R i) (R k + wtI r fw i)) j ≤ R j) ∧ upI R i (imin (R i) (R k + wtI r fw i)) i ≤ R k + wtI r fw i := by
  have hw := h.wt fw i
  have hle : ∀ j, upI R i (imin (R i) (R k + wtI r fw i)) j ≤ R j := fun j => by
    unfold upI imin
    split
    · rename_i e; subst e; split <;> omega
    · exact Int.le_refl _
  refine ⟨⟨fun j hj hl => ?_, fun j hj => ?_, fun j l hr hl => Int.le_trans (hle j) (hb.cov j l hr hl)⟩, hle, ?_⟩
  · unfold upI imin at *
    split at hl
    · rename_i e; subst e
      rw [if_pos rfl]
      split at hl
      · rename_i q
        rw [if_pos q]
        obtain ⟨l, h1, h2⟩ := hb.att k hk hlt
        exact ⟨j :: l, .cons hi hf h1, by simp only [sumf]; omega⟩
      · rename_i q
        rw [if_neg q]
        exact hb.att j hj hl
    · rename_i e
      rw [if_neg e]
      exact hb.att j hj hl
  · have h1 := hb.rng i hi
    have h2 := hb.rng j hj
    have h3 := hb.rng k hk
    unfold upI imin
    split
    · split <;> omega
    · exact h2
  · unfold upI imin
    rw [if_pos rfl]
    split <;> omega
section
variable {r : S_api_Roster} (h : Vw r) {g : Int} {fw : Bool}
include h
end
end Go.Proofs.YthogdhepjcomjaaGreatDoor

/-
  What is proved: the specification's plan is the least one.
-/
namespace Go.Proofs.YthogdhepjcomjaaGreatDoor
open Go Go.Proofs.YthogdhepjcomjaaGreatDoor.Wh

section
variable {r : S_api_Roster} (h : Vw r) {g : Int} {fw : Bool}
include h
/-- The least of those that begin. -/
structure Fst (r : S_api_Roster) (g : Int) (R : Int → Int) (j : Nat) (now : Int) : Prop where
  is : now = -1 ∨ (0 ≤ now ∧ now < (j : Int) ∧ (tn r now).1 = g ∧ bgI r now ≤ 0 ∧ R now < far)
  le : ∀ k : Nat, k < j → (tn r (k : Int)).1 = g → bgI r (k : Int) ≤ 0 → R (k : Int) < far → 0 ≤ now ∧ (R now < R (k : Int) ∨ (R now = R (k : Int) ∧ now ≤ (k : Int)))
/-- The least that goes on. -/
structure Nxt (r : S_api_Roster) (R : Int → Int) (x left : Int) (j : Nat) (nx : Int) : Prop where
  is : nx = -1 ∨ ((j : Int) ≤ nx ∧ nx < (r.2.2.2.2.length : Int) ∧ foB r x nx = true ∧ R nx = left)
  le : ∀ k : Nat, j ≤ k → k < r.2.2.2.2.length → foB r x (k : Int) = true → R (k : Int) = left → 0 ≤ nx ∧ nx ≤ (k : Int)
end
end Go.Proofs.YthogdhepjcomjaaGreatDoor

/-
  What is proved: what the specification's questions about plans return.
-/
namespace Go.Proofs.YthogdhepjcomjaaGreatDoor
open Go Go.Proofs.YthogdhepjcomjaaGreatDoor.Wh

section
variable {r : S_api_Roster} {g : Int} {l : List Int}
end
end Go.Proofs.YthogdhepjcomjaaGreatDoor
