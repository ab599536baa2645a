/-
  What is proved: parts of lists; lists without room behind them, and what is appended to them.
-/
import Derived.Test.YtjlagmcdoobimaaGreatDoorBaseI
import Derived.Deep.AppendSrc
namespace Go.Proofs.YtjlagmcdoobimaaGreatDoor.Wh
open Go Go.RowKit

section
variable {P : Program} {Γ : List (Nat × Pr)} {ty : TypeId}
/-! ### parts of parts of boxes -/
theorem setA_some {α : Type} {n : Nat} {x x' : Vector α n} {i : Int} {z : α} (h : setA x i z = some x') : ∃ q : i.toNat < n, 0 ≤ i ∧ x' = x.set i.toNat z q := by
  unfold setA at h
  split at h
  · rename_i q
    cases h
    exact ⟨q.2, q.1, rfl⟩
  · cases h
theorem repL_at {α : Type} [Enc α] {c : Mem} : ∀ {cells : List Value} {xs : List α}, RepL c cells xs → ∀ k y, xs[k]? = some y → Enc.rep c ((cells.drop (k * Enc.size α)).take (Enc.size α)) y
  | _, [], _, k, y, e => by cases e
  | _, x :: r, ⟨v1, v2, he, h1, h2⟩, 0, y, e => by
    simp at e; subst e
    have hl := Enc.len h1
    rw [he, Nat.zero_mul, List.drop_zero, ← hl, List.take_left]
    exact h1
  | _, x :: r, ⟨v1, v2, he, h1, h2⟩, k + 1, y, e => by
    have hl := Enc.len h1
    rw [he, Nat.succ_mul, Nat.add_comm, ← hl, List.drop_length_add_append, hl]
    exact repL_at h2 k y (by simpa using e)
theorem SetF.at_ {β γ : Type} [Enc β] [Enc γ] {n off : Nat} {x x' : Vector β n} {i : Int} {y y' : β} {z : γ} (h0 : idxA x i = some y) (hs : SetF off y z y') (h1 : setA x i y' = some x') : SetF (i.toNat * Enc.size β + off) x z x' := ⟨fun c l m k1 k2 => by
  obtain ⟨q, q0, rfl⟩ := setA_some h1
  have k1 : RepL c l x.toList := k1
  have hlen := RepL.len k1
  have hy : x.toList[i.toNat]? = some y := by
    unfold idxA idx at h0
    rw [if_neg (by omega)] at h0
    exact h0
  have hrow := repL_at k1 _ _ hy
  obtain ⟨f1, f2⟩ := hs.out c _ m hrow k2
  have hrl := Enc.len hrow
  have hb : (i.toNat + 1) * Enc.size β ≤ l.length := by
    rw [hlen]
    exact Nat.mul_le_mul_right _ (by have : x.toList.length = n := by simp
                                     omega)
  rw [Nat.succ_mul] at hb
  rw [hrl] at f1
  refine ⟨by omega, ?_⟩
  have f3 := RepL.set i.toNat k1 f2 (by simpa using q)
  show RepL c _ (x.set i.toNat y' q).toList
  rw [Vector.toList_set]
  have hf2 := Enc.len f2
  rw [hf2] at f3
  have e : l.take (i.toNat * Enc.size β + off) ++ m ++ l.drop (i.toNat * Enc.size β + off + m.length) =
      l.take (i.toNat * Enc.size β) ++ (((l.drop (i.toNat * Enc.size β)).take (Enc.size β)).take off ++ m ++ ((l.drop (i.toNat * Enc.size β)).take (Enc.size β)).drop (off + m.length)) ++ l.drop (i.toNat * Enc.size β + Enc.size β) := by
    rw [List.take_add, List.take_take, Nat.min_eq_left (by omega), List.drop_take, List.drop_drop, List.append_assoc, List.append_assoc, List.append_assoc, List.append_assoc, List.append_assoc]
    congr 2
    congr 1
    have e1 : l.drop (i.toNat * Enc.size β + Enc.size β) = (l.drop (i.toNat * Enc.size β + (off + m.length))).drop (Enc.size β - (off + m.length)) := by
      rw [List.drop_drop]; congr 1; omega
    rw [e1, List.take_append_drop]
    congr 1; omega
  rw [e]
  exact f3⟩
end
end Go.Proofs.YtjlagmcdoobimaaGreatDoor.Wh
