/-
  Models of library functions, by hand; nothing is claimed here.
-/
import Derived.Test.YtkbilbeaedocjaaData
namespace Go.Proofs.Ytkbilbeaedocjaa.M
open Go Go.Proofs.Ytkbilbeaedocjaa Go.Proofs.Ytkbilbeaedocjaa.Wh

/-- slices.Clone[[]waterhour/api.Offer,waterhour/api.Offer] -/
def f128 (p0 : List S_api_Offer) : Option (List S_api_Offer) := if p0.length ≤ 4294967296 then some p0 else none
/-- slices.Grow[[]waterhour/api.Offer,waterhour/api.Offer] of nil -/
def f98 (n : Int) : Option Unit := if 0 ≤ n ∧ n ≤ 1048576 then some () else none
/-- slices.Grow[[]waterhour/api.Span,waterhour/api.Span] of nil -/
def f127 (n : Int) : Option Unit := if 0 ≤ n ∧ n ≤ 1048576 then some () else none
end Go.Proofs.Ytkbilbeaedocjaa.M
