/-
  What is proved: fields of elements of own slices are stored to; a list in a variable is a header again.
-/
import Derived.Test.YtnnhmgcigoiceaaGreatDoorBaseQ
namespace Go.Proofs.YtnnhmgcigoiceaaGreatDoor.Wh
open Go Go.RowKit

section
variable {P : Program} {Γ : List (Nat × Pr)}
end
section
variable {P : Program} {Γ Δ : List (Nat × Pr)} {n : Nat} {F0 : Nat → Bool} {js : List Item} {w0 w : World} {a : Act} {ops : Array Oper} {Q : Exit → Act → World → Prop}
variable {t : TypeId} {ps : String} {af : Array Edge} {r : List Oper}
/-- A list that is a header again. -/
structure ToR {α α' : Type} [Enc α] [Enc α'] (x : α) (x' : Value → α') : Prop where
  out : ∀ (c : Mem) (cs : List Value), Enc.rep c cs x → ∃ v, Enc.rep c cs (x' v)
theorem ToR.self {β : Type} [Enc β] {l : List β} : ToR l (fun v => Raw.mk v) := ⟨fun c cs h => by
  obtain ⟨u, rfl, h3⟩ := rep1_out h
  refine ⟨u, ⟨rfl, ?_⟩⟩
  obtain ⟨a, cap, rfl, _⟩ := slice_len h3
  rfl⟩
theorem ToR.fst {α α' γ : Type} [Enc α] [Enc α'] [Enc γ] {x : α} {x' : Value → α'} {b : γ} (h : ToR x x') : ToR (x, b) (fun v => (x' v, b)) := ⟨fun c cs h2 => by
  obtain ⟨l1, l2, rfl, k1, k2⟩ := h2
  obtain ⟨v, hv⟩ := h.out c l1 k1
  exact ⟨v, l1, l2, rfl, hv, k2⟩⟩
theorem ToR.snd {α α' γ : Type} [Enc α] [Enc α'] [Enc γ] {x : α} {x' : Value → α'} {b : γ} (h : ToR x x') : ToR (b, x) (fun v => (b, x' v)) := ⟨fun c cs h2 => by
  obtain ⟨l1, l2, rfl, k1, k2⟩ := h2
  obtain ⟨v, hv⟩ := h.out c l2 k2
  exact ⟨v, l1, l2, rfl, k1, hv⟩⟩
end
end Go.Proofs.YtnnhmgcigoiceaaGreatDoor.Wh
