/-
  Models of library functions, by hand; nothing is claimed here.
-/
import Derived.Test.YtkbilbeaedocjaaData
namespace Go.Proofs.Ytkbilbeaedocjaa.M
open Go Go.Proofs.Ytkbilbeaedocjaa Go.Proofs.Ytkbilbeaedocjaa.Wh

/-- slices.Clone[[][][2]int,[][2]int] -/
def f35 (p0 : List (List (Vector Int 2))) : Option (List (List (Vector Int 2))) := if p0.length ≤ 4294967296 then some p0 else none
end Go.Proofs.Ytkbilbeaedocjaa.M
