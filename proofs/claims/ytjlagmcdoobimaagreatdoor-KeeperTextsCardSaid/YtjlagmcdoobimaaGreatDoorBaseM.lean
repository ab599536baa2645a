/-
  What is proved: lists of which it is known that they are nil when they are empty.
-/
import Derived.Test.YtjlagmcdoobimaaGreatDoorBaseL
namespace Go.Proofs.YtjlagmcdoobimaaGreatDoor.Wh
open Go Go.RowKit

instance {α : Type} [Enc α] : Enc (NL α) := Enc.single (fun c v x => slice c v x.l ∧ (x.l = [] → v = .slice none 0 0)) (fun hc h => ⟨slice_mono hc h.1, h.2⟩) (fun h => by obtain ⟨a, cap, rfl, _⟩ := slice_len h.1; rfl)
section
variable {P : Program} {Γ : List (Nat × Pr)} {ty : TypeId}
end
end Go.Proofs.YtjlagmcdoobimaaGreatDoor.Wh
