/-
  Models of library functions, by hand; nothing is claimed here.
-/
import Derived.Test.YthogdhepjcomjaaGreatDoorPlain
namespace Go.Proofs.YthogdhepjcomjaaGreatDoor.M
open Go Go.Proofs.YthogdhepjcomjaaGreatDoor Go.Proofs.YthogdhepjcomjaaGreatDoor.Wh

/-- slices.Reverse of []int -/
def f46 (p0 : List Int) : Option (List Int) := if p0.length ≤ 4294967296 then some p0.reverse else none
end Go.Proofs.YthogdhepjcomjaaGreatDoor.M
