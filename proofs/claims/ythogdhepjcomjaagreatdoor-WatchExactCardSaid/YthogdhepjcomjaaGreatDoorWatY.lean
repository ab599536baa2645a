/-
  What is proved: what the specification's question whether a gate can be bare returns.
-/
import Derived.Test.YthogdhepjcomjaaGreatDoorWatX
namespace Go.Proofs.YthogdhepjcomjaaGreatDoor
open Go Go.Proofs.YthogdhepjcomjaaGreatDoor.Wh

/-! ### one more bound -/
/-- Bounds that are as close as they can be. -/
structure Cm (n : Nat) (F : Nat → Nat → Int) : Prop where
  zero : ∀ a, a < n → F a a = 0
  tri : ∀ a b c, a < n → b < n → c < n → F a c ≤ F a b + F b c
def SolM (n : Nat) (F : Nat → Nat → Int) (x : Nat → Int) : Prop := ∀ a b, a < n → b < n → x a - x b ≤ F a b
theorem Cm.none {n : Nat} {F : Nat → Nat → Int} {u l : Nat} (hu : u < n) (hl : l < n) {b : Int} (hb : ¬ 0 ≤ b + F l u) {x : Nat → Int} (hx : SolM n F x) : ¬ x u - x l ≤ b := by
  have := hx l u hl hu
  omega
section
variable {r : S_api_Roster} (h : Vd r)
include h
end
end Go.Proofs.YthogdhepjcomjaaGreatDoor
