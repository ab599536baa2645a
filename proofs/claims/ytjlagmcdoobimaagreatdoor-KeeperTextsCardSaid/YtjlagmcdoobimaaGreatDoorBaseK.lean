/-
  What is proved: maps of the call's own with numbers as keys and truth values: made, looked up, set.
-/
import Derived.Test.YtjlagmcdoobimaaGreatDoorBaseJ
import Derived.MapKept
namespace Go.Proofs.YtjlagmcdoobimaaGreatDoor.Wh
open Go Go.RowKit

def EsIs (es : List MapEntry) (m : List (Int × Bool)) : Prop := es.map (fun e => (e.key, e.val)) = m.map fun x => (Value.int .i64 x.1, Value.bool x.2)
structure OwnM (b : Nat) (m : List (Int × Bool)) (w : World) : Prop where
  out : ∃ es clock, w.heap[b]? = some (.map es clock) ∧ EsIs es.toList m
structure MpP (P : Program) (T : TypeId) : Prop where
  out : ∃ KT ET i, P.underlying T = some (.map KT ET) ∧ P.underlying KT = some (.int .i64) ∧ P.info? ET = some i ∧ i.zero = some (.bool false)
theorem MpP.mk' {P : Program} {T KT ET : TypeId} (h1 : P.underlying T = some (.map KT ET)) (h2 : P.underlying KT = some (.int .i64)) (h3 : (P.info? ET).map (·.zero) = some (some (.bool false))) : MpP P T := by
  cases hi : P.info? ET with
  | none => rw [hi] at h3; cases h3
  | some i =>
    rw [hi] at h3
    simp only [Option.map_some, Option.some.injEq] at h3
    exact ⟨KT, ET, i, h1, h2, hi, h3⟩
section
variable {P : Program} {Γ : List (Nat × Pr)} {n : Nat} {F0 : Nat → Bool} {js : List Item} {w0 w : World} {a : Act} {ops : Array Oper} {Q : Exit → Act → World → Prop}
variable {d : Nat} {t : TypeId} {ps : String} {af : Array Edge} {r : List Oper} {Δ : List (Nat × Pr)}
end
end Go.Proofs.YtjlagmcdoobimaaGreatDoor.Wh
