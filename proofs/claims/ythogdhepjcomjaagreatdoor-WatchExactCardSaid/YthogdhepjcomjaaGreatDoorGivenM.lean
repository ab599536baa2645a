/-
  Models of library functions that are met by contracts; nothing is claimed here.
-/
import Derived.Test.YthogdhepjcomjaaGreatDoorData
import Derived.Lib.ItoaMem
import Derived.Lib.Join
namespace Go.Proofs.YthogdhepjcomjaaGreatDoor.M
open Go Go.Proofs.YthogdhepjcomjaaGreatDoor Go.Proofs.YthogdhepjcomjaaGreatDoor.Wh

/-- slices.Clone of []int -/
def f45 (p0 : List Int) : Option (List Int) := if p0.length ≤ 4294967296 then some p0 else none
/-- slices.Repeat of []int: of one number -/
def f105 (p0 : List Int) (p1 : Int) : Option (List Int) := match p0 with
  | [x] => if 1 ≤ p1 ∧ p1 ≤ 8 then some (List.replicate p1.toNat x) else none
  | _ => none
/-- strconv.Itoa -/
def f131 (p0 : Int) : Option ByteArray := if -9223372036854775808 ≤ p0 ∧ p0 ≤ 9223372036854775807 then some ⟨(Lib.itoa p0).toArray⟩ else none
/-- strings.Join -/
def f132 (p0 : List ByteArray) (p1 : ByteArray) : Option ByteArray := if 1 ≤ p0.length ∧ p0.length ≤ 140737488355328 ∧ (Lib.join (p0.map (·.data.toList)) p1.data.toList).length ≤ 140737488355328 then some ⟨(Lib.join (p0.map (·.data.toList)) p1.data.toList).toArray⟩ else none
end Go.Proofs.YthogdhepjcomjaaGreatDoor.M
