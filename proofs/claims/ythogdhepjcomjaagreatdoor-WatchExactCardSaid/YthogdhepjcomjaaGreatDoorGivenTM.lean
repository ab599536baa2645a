/-
  Models of library functions, by hand; nothing is claimed here.
-/
import Derived.Test.YthogdhepjcomjaaGreatDoorData
namespace Go.Proofs.YthogdhepjcomjaaGreatDoor.M
open Go Go.Proofs.YthogdhepjcomjaaGreatDoor Go.Proofs.YthogdhepjcomjaaGreatDoor.Wh

/-- slices.Clone of []Turn -/
def f61 (p0 : List S_api_Turn) : Option (List S_api_Turn) := if p0.length ≤ 4294967296 then some p0 else none
end Go.Proofs.YthogdhepjcomjaaGreatDoor.M
