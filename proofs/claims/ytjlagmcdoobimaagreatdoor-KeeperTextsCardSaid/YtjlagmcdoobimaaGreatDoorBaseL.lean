/-
  What is proved: calls of functions that are handed function values which change things; what such a value does to the things that it knows.
-/
import Derived.Test.YtjlagmcdoobimaaGreatDoorBaseK
namespace Go.Proofs.YtjlagmcdoobimaaGreatDoor.Wh
open Go Go.RowKit

section
variable {P : Program} {Γ : List (Nat × Pr)} {n : Nat} {F0 : Nat → Bool} {js : List Item} {w0 w : World} {a : Act} {ops : Array Oper} {Q : Exit → Act → World → Prop}
variable {t : TypeId} {ps : String} {af : Array Edge} {r : List Oper} {Δ : List (Nat × Pr)}
end
/-- What a function value does to things that it knows: from one state of theirs to another. -/
structure EffP (P : Program) (g : FuncId) (κs : List Pr) {σ X α : Type} [Enc α] (J : σ → X → List Item) (F : σ → α → Option σ) : Prop where
  en : Enters P g
  ok : ∀ {s : σ} {x : X} {a : α} {s' : σ}, F s a = some s' → CallF P g (J s x) ([isV a] ++ κs) ⟨X, fun x' => J s' x', fun _ => Pr.top⟩
/-! ### cells that are copied into parts of boxes -/
/-- What a variable holds when some cells of it are set. -/
structure SetC {α β : Type} [Enc α] [Enc β] (off : Nat) (x : α) (zs : List β) (x' : α) : Prop where
  out : ∀ (c : Mem) (l m : List Value), Enc.rep c l x → RepL c m zs → off + m.length ≤ l.length ∧ Enc.rep c (l.take off ++ m ++ l.drop (off + m.length)) x'
theorem SetC.at_ {β γ : Type} [Enc β] [Enc γ] {n off : Nat} {x x' : Vector β n} {i : Int} {y y' : β} {zs : List γ} (h0 : idxA x i = some y) (hs : SetC off y zs y') (h1 : setA x i y' = some x') : SetC (i.toNat * Enc.size β + off) x zs x' := ⟨fun c l m k1 k2 => by
  obtain ⟨q, q0, rfl⟩ := setA_some h1
  have k1 : RepL c l x.toList := k1
  have hlen := RepL.len k1
  have hy : x.toList[i.toNat]? = some y := by
    unfold idxA idx at h0
    rw [if_neg (by omega)] at h0
    exact h0
  have hrow := repL_at k1 _ _ hy
  obtain ⟨f1, f2⟩ := hs.out c _ m hrow k2
  have hrl := Enc.len hrow
  have hb : (i.toNat + 1) * Enc.size β ≤ l.length := by
    rw [hlen]
    exact Nat.mul_le_mul_right _ (by have : x.toList.length = n := by simp
                                     omega)
  rw [Nat.succ_mul] at hb
  rw [hrl] at f1
  refine ⟨by omega, ?_⟩
  have f3 := RepL.set i.toNat k1 f2 (by simpa using q)
  show RepL c _ (x.set i.toNat y' q).toList
  rw [Vector.toList_set]
  have hf2 := Enc.len f2
  rw [hf2] at f3
  have e : l.take (i.toNat * Enc.size β + off) ++ m ++ l.drop (i.toNat * Enc.size β + off + m.length) =
      l.take (i.toNat * Enc.size β) ++ (((l.drop (i.toNat * Enc.size β)).take (Enc.size β)).take off ++ m ++ ((l.drop (i.toNat * Enc.size β)).take (Enc.size β)).drop (off + m.length)) ++ l.drop (i.toNat * Enc.size β + Enc.size β) := by
    rw [List.take_add, List.take_take, Nat.min_eq_left (by omega), List.drop_take, List.drop_drop, List.append_assoc, List.append_assoc, List.append_assoc, List.append_assoc, List.append_assoc]
    congr 2
    congr 1
    have e1 : l.drop (i.toNat * Enc.size β + Enc.size β) = (l.drop (i.toNat * Enc.size β + (off + m.length))).drop (Enc.size β - (off + m.length)) := by
      rw [List.drop_drop]; congr 1; omega
    rw [e1, List.take_append_drop]
    congr 1; omega
  rw [e]
  exact f3⟩
section
variable {P : Program} {Γ : List (Nat × Pr)} {n : Nat} {F0 : Nat → Bool} {js : List Item} {w0 w : World} {a : Act} {ops : Array Oper} {Q : Exit → Act → World → Prop} {ty : TypeId}
variable {t : TypeId} {ps : String} {af : Array Edge} {r : List Oper} {Δ : List (Nat × Pr)}
end
end Go.Proofs.YtjlagmcdoobimaaGreatDoor.Wh
