/-
  Models of library functions, by hand; nothing is claimed here.
-/
import Derived.Test.YtjlagmcdoobimaaGreatDoorData
import Derived.Test.YtjlagmcdoobimaaGreatDoorBaseS
import Derived.Lib.ItoaMem
import Derived.Lib.Join
import Derived.Lib.Split
import Derived.Lib.AtoiAll
namespace Go.Proofs.YtjlagmcdoobimaaGreatDoor.M
open Go Go.Proofs.YtjlagmcdoobimaaGreatDoor Go.Proofs.YtjlagmcdoobimaaGreatDoor.Wh

/-- slices.Clone[[]waterhour/api.Offer,waterhour/api.Offer] -/
def f65 (p0 : List S_api_Offer) : Option (List S_api_Offer) := if p0.length ≤ 4294967296 then some p0 else none
/-- slices.Grow[[]waterhour/api.Offer,waterhour/api.Offer] of nil -/
def f63 (n : Int) : Option Unit := if 0 ≤ n ∧ n ≤ 1048576 then some () else none
/-- slices.Grow[[]waterhour/api.Span,waterhour/api.Span] of nil -/
def f64 (n : Int) : Option Unit := if 0 ≤ n ∧ n ≤ 1048576 then some () else none
/-- strconv.Itoa -/
def f23 (p0 : Int) : Option ByteArray := if -9223372036854775808 ≤ p0 ∧ p0 ≤ 9223372036854775807 then some ⟨(Lib.itoa p0).toArray⟩ else none
/-- strings.Join -/
def f24 (p0 : List ByteArray) (p1 : ByteArray) : Option ByteArray := if 1 ≤ p0.length ∧ p0.length ≤ 140737488355328 ∧ (Lib.join (p0.map (·.data.toList)) p1.data.toList).length ≤ 140737488355328 then some ⟨(Lib.join (p0.map (·.data.toList)) p1.data.toList).toArray⟩ else none
/-- strings.Split at blanks -/
def f26 (p0 : ByteArray) (p1 : ByteArray) : Option (List ByteArray) := if p1 = ⟨#[32]⟩ ∧ p0.size ≤ 1000000 then some (Lib.splitB p1 0 (Lib.countB p0 p1) p0) else none
/-- strconv.Atoi -/
def f27 (p0 : ByteArray) : Option (Int × ErrV) := if p0.size ≤ 1000000 then some (match Lib.atoiAll p0.data.toList with | .ok v => (v, ⟨false⟩) | .range => (Lib.atoiSat p0.data.toList, ⟨true⟩) | _ => (0, ⟨true⟩)) else none
end Go.Proofs.YtjlagmcdoobimaaGreatDoor.M
