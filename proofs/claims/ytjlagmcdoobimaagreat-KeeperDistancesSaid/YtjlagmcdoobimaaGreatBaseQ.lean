/-
  What is proved: a region that draws, with operations that write in more than one order: each order is walked.
-/
import Derived.Test.YtjlagmcdoobimaaGreatBaseP
namespace Go.Proofs.YtjlagmcdoobimaaGreat.Wh
open Go Go.RowKit

section
variable {P : Program} {ops : Array Oper}
end
section
variable {P : Program} {Γ : List (Nat × Pr)} {n : Nat} {F0 : Nat → Bool} {js : List Item} {w0 w : World} {a : Act} {ops : Array Oper} {Q : Exit → Act → World → Prop}
end
end Go.Proofs.YtjlagmcdoobimaaGreat.Wh
