/-
  Models of library functions, by hand; nothing is claimed here.
-/
import Derived.Test.YtjlagmcdoobimaaGreatDoorModelA
namespace Go.Proofs.YtjlagmcdoobimaaGreatDoor.M
open Go Go.Proofs.YtjlagmcdoobimaaGreatDoor Go.Proofs.YtjlagmcdoobimaaGreatDoor.Wh

/-- slices.SortFunc[[][2]int,[2]int], with the order of keeper.fronts -/
def f58 (p0 : List (Vector Int 2)) (_cmp : Vector Int 2 → Vector Int 2 → Option Int) : Option (List (Vector Int 2)) :=
  if p0.length ≤ 4294967296 then some (isort (fun x y => decide (x[0] < y[0]) || (x[0] == y[0] && decide (x[1] < y[1]))) p0) else none
end Go.Proofs.YtjlagmcdoobimaaGreatDoor.M
