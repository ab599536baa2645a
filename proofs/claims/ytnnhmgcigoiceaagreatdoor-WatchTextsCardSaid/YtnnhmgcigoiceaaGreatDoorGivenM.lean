/-
  Models of library functions, by hand; nothing is claimed here.
-/
import Derived.Test.YtnnhmgcigoiceaaGreatDoorData
import Derived.Test.YtnnhmgcigoiceaaGreatDoorBaseS
import Derived.Lib.ItoaMem
import Derived.Lib.Join
import Derived.Lib.Split
import Derived.Lib.AtoiAll
namespace Go.Proofs.YtnnhmgcigoiceaaGreatDoor.M
open Go Go.Proofs.YtnnhmgcigoiceaaGreatDoor Go.Proofs.YtnnhmgcigoiceaaGreatDoor.Wh

/-- slices.Clone of []int -/
def f93 (p0 : List Int) : Option (List Int) := if p0.length ≤ 4294967296 then some p0 else none
/-- slices.Repeat of []int: of one number -/
def f49 (p0 : List Int) (p1 : Int) : Option (List Int) := match p0 with
  | [x] => if 1 ≤ p1 ∧ p1 ≤ 8 then some (List.replicate p1.toNat x) else none
  | _ => none
/-- strconv.Itoa -/
def f27 (p0 : Int) : Option ByteArray := if -9223372036854775808 ≤ p0 ∧ p0 ≤ 9223372036854775807 then some ⟨(Lib.itoa p0).toArray⟩ else none
/-- strings.Join -/
def f28 (p0 : List ByteArray) (p1 : ByteArray) : Option ByteArray := if 1 ≤ p0.length ∧ p0.length ≤ 140737488355328 ∧ (Lib.join (p0.map (·.data.toList)) p1.data.toList).length ≤ 140737488355328 then some ⟨(Lib.join (p0.map (·.data.toList)) p1.data.toList).toArray⟩ else none
/-- strings.Split at blanks -/
def f30 (p0 : ByteArray) (p1 : ByteArray) : Option (List ByteArray) := if p1 = ⟨#[32]⟩ ∧ p0.size ≤ 1000000 then some (Lib.splitB p1 0 (Lib.countB p0 p1) p0) else none
/-- strconv.Atoi -/
def f31 (p0 : ByteArray) : Option (Int × ErrV) := if p0.size ≤ 1000000 then some (match Lib.atoiAll p0.data.toList with | .ok v => (v, ⟨false⟩) | .range => (Lib.atoiSat p0.data.toList, ⟨true⟩) | _ => (0, ⟨true⟩)) else none
end Go.Proofs.YtnnhmgcigoiceaaGreatDoor.M
