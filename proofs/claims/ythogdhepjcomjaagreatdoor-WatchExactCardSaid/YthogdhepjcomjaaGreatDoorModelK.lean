/-
  Models of Go functions, written by program; nothing is claimed here.
-/
import Derived.Test.YthogdhepjcomjaaGreatDoorModelH
namespace Go.Proofs.YthogdhepjcomjaaGreatDoor.M
open Go Go.Proofs.YthogdhepjcomjaaGreatDoor Go.Proofs.YthogdhepjcomjaaGreatDoor.Wh

end Go.Proofs.YthogdhepjcomjaaGreatDoor.M
