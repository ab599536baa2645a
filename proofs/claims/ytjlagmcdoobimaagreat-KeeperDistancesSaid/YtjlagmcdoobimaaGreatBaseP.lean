/-
  What is proved: copies into an own slice; calls that read a table of the library's, which is as it was when the caller's call began.
-/
import Derived.Test.YtjlagmcdoobimaaGreatBaseN
import Derived.Lib.AppendIntMem
import Derived.Lib.ItoaMem
namespace Go.Proofs.YtjlagmcdoobimaaGreat.Wh
open Go Go.RowKit

/-! ### calls that read the table of powers -/
/-- The table is there. -/
def TabT (P : Program) (w : World) : Prop := Go.Lib.TabIs P w "internal/strconv.uint64pow10" .u64 Go.Lib.pow10Tab
theorem TabT.on {P : Program} {w w' : World} (h : TabT P w) (hb : Below w.heap.size w w') : TabT P w' :=
  Go.Lib.tabBelow_of_tabIs (P := P) (w := w) (name := "internal/strconv.uint64pow10") (k := .u64) (zs := Go.Lib.pow10Tab) h w' hb.kit
section
variable {P : Program} {Γ : List (Nat × Pr)} {n : Nat} {F0 : Nat → Bool} {js : List Item} {w0 w : World} {a : Act} {ops : Array Oper} {Q : Exit → Act → World → Prop} {ty : TypeId}
variable {t : TypeId} {ps : String} {af : Array Edge} {r : List Oper} {Δ : List (Nat × Pr)} {d : Nat}
/-! ### copies into an own slice, of elements of one cell -/
end
end Go.Proofs.YtjlagmcdoobimaaGreat.Wh
