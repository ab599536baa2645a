/-
  What is proved: fields of elements of own slices are stored to; a list in a variable is a header again.
-/
import Derived.Test.YtjlagmcdoobimaaGreatDoorBaseQ
namespace Go.Proofs.YtjlagmcdoobimaaGreatDoor.Wh
open Go Go.RowKit

section
variable {P : Program} {Γ : List (Nat × Pr)}
end
section
variable {P : Program} {Γ Δ : List (Nat × Pr)} {n : Nat} {F0 : Nat → Bool} {js : List Item} {w0 w : World} {a : Act} {ops : Array Oper} {Q : Exit → Act → World → Prop}
variable {t : TypeId} {ps : String} {af : Array Edge} {r : List Oper}
/-- A list that is a header again. -/
structure ToR {α α' : Type} [Enc α] [Enc α'] (x : α) (x' : Value → α') : Prop where
  out : ∀ (c : Mem) (cs : List Value), Enc.rep c cs x → ∃ v, Enc.rep c cs (x' v)
end
end Go.Proofs.YtjlagmcdoobimaaGreatDoor.Wh
