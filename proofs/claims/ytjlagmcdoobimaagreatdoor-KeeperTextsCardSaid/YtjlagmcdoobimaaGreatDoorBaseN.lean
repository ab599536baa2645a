/-
  What is proved: calls behind a test of function values that change things; operations on places in boxes that may come at any time.
-/
import Derived.Test.YtjlagmcdoobimaaGreatDoorBaseM
namespace Go.Proofs.YtjlagmcdoobimaaGreatDoor.Wh
open Go Go.RowKit

section
variable {P : Program} {Γ : List (Nat × Pr)} {n : Nat} {F0 : Nat → Bool} {js : List Item} {w0 w : World} {a : Act} {ops : Array Oper} {Q : Exit → Act → World → Prop}
variable {t : TypeId} {ps : String} {af : Array Edge} {r : List Oper} {Δ : List (Nat × Pr)}
end
section
variable {P : Program} {Γ : List (Nat × Pr)} {ty : TypeId}
end
section
variable {P : Program} {Γ : List (Nat × Pr)} {ty : TypeId}
end
section
variable {P : Program} {Γ : List (Nat × Pr)} {n : Nat} {F0 : Nat → Bool} {w0 w : World} {a : Act}
end
/-- A function value that looks at things and changes none. -/
structure RdP (P : Program) (g : FuncId) (κs : List Pr) {α β : Type} [Enc α] [Enc β] (J : List Item) (F : α → Option β) : Prop where
  en : Enters P g
  ok : ∀ {a : α} {r : β}, F a = some r → CallF P g J ([isV a] ++ κs) ⟨Unit, fun _ => J, fun _ => isV r⟩
/-! ### a variable that holds the header of an own slice, both looked at -/
section
variable {P : Program} {Γ : List (Nat × Pr)} {n : Nat} {F0 : Nat → Bool} {js : List Item} {w0 w : World} {a : Act} {ty : TypeId}
end
section
variable {P : Program} {Γ : List (Nat × Pr)} {n : Nat} {F0 : Nat → Bool} {js : List Item} {w0 w : World} {a : Act} {ops : Array Oper} {Q : Exit → Act → World → Prop}
variable {d : Nat} {t : TypeId} {ps : String} {af : Array Edge} {r : List Oper}
end
section
variable {n : Nat} {F0 : Nat → Bool} {js : List Item} {w0 w : World} {a : Act} {Γ : List (Nat × Pr)} {d : Nat} {φ : Pr} {g : Bool}
end
/-- What a variable holds when a part of it is set, and it is read otherwise. -/
structure SetG {α β γ : Type} [Enc α] [Enc β] [Enc γ] (off : Nat) (x : α) (z : β) (x' : γ) : Prop where
  out : ∀ (c : Mem) (l m : List Value), Enc.rep c l x → Enc.rep c m z → off + m.length ≤ l.length ∧ Enc.rep c (l.take off ++ m ++ l.drop (off + m.length)) x'
theorem SetG.swap {α β : Type} [Enc α] [Enc β] {x : α} {z : β} (hsz : Enc.size α = Enc.size β) : SetG 0 x z z := ⟨fun c l m h1 h2 => by
  have e : m.length = l.length := by rw [Enc.len h1, Enc.len h2, hsz]
  rw [Nat.zero_add, e, List.take_zero, List.nil_append, List.drop_length, List.append_nil]
  exact ⟨Nat.le_refl _, h2⟩⟩
/-! ### variables that hold headers of own slices, all looked at -/
def Pr.row {α : Type} [Enc α] (φ : Pr) (v : Value) (xs : List α) : Pr := ⟨fun c u => φ.p c u ∧ RowM c v xs, fun hc h => ⟨φ.mono hc h.1, h.2.mono hc⟩⟩
section
variable {P : Program} {Γ : List (Nat × Pr)} {n : Nat} {F0 : Nat → Bool} {js : List Item} {w0 w : World} {a : Act} {ty : TypeId}
end
section
variable {P : Program} {Γ : List (Nat × Pr)} {n : Nat} {F0 : Nat → Bool} {js : List Item} {w0 w : World} {a : Act} {ops : Array Oper} {Q : Exit → Act → World → Prop}
variable {t : TypeId} {ps : String} {af : Array Edge} {r : List Oper} {Δ : List (Nat × Pr)}
end
end Go.Proofs.YtjlagmcdoobimaaGreatDoor.Wh

namespace Go.Proofs.YtjlagmcdoobimaaGreatDoor.Wh
open Go Go.RowKit

/-! ### a variable that is let go while what its headers name is still the call's own -/
section
variable {P : Program} {Γ : List (Nat × Pr)} {n : Nat} {F0 : Nat → Bool} {js : List Item} {w0 w : World} {a : Act} {ty : TypeId}
end
end Go.Proofs.YtjlagmcdoobimaaGreatDoor.Wh
