/-
  What is proved: lists of which it is known that they are nil when they are empty.
-/
import Derived.Test.YtnnhmgcigoiceaaGreatDoorBaseL
namespace Go.Proofs.YtnnhmgcigoiceaaGreatDoor.Wh
open Go Go.RowKit

instance {α : Type} [Enc α] : Enc (NL α) := Enc.single (fun c v x => slice c v x.l ∧ (x.l = [] → v = .slice none 0 0)) (fun hc h => ⟨slice_mono hc h.1, h.2⟩) (fun h => by obtain ⟨a, cap, rfl, _⟩ := slice_len h.1; rfl)
theorem nlO_some {α : Type} {l : List α} {z : NL α} (h : nlO l = some z) : z.l = l ∧ l ≠ [] := by
  cases l with
  | nil => cases h
  | cons x r => cases h; exact ⟨rfl, by simp⟩
theorem od_mono {Γ : List (Nat × Pr)} {x : Operand} {φ ψ : Pr} (h : Od Γ x φ) (k : ∀ c v, φ.p c v → ψ.p c v) : Od Γ x ψ := by
  cases x with
  | tmp t => obtain ⟨χ, hl, hk⟩ := h; exact ⟨χ, hl, fun c v q => k c v (hk c v q)⟩
  | const v => exact fun c => k c _ (h c)
  | global g => exact fun c => k c _ (h c)
  | func f => exact fun c => k c _ (h c)
theorem odNL {α : Type} [Enc α] {Γ : List (Nat × Pr)} {t : Nat} {x : NL α} (h : lk Γ t = some (isV x)) : Od Γ (.tmp t) (isV x.l) := od_mono (od h) fun _ _ q => q.1
theorem odNLw {α : Type} [Enc α] {Γ : List (Nat × Pr)} {t : Nat} {x : NL α} {G : Bool} (h : lk Γ t = some ((isV x).when G)) (hG : G = true) : Od Γ (.tmp t) (isV x.l) := od_mono (odw h hG) fun _ _ q => q.1
theorem odMkNL {α : Type} [Enc α] {Γ : List (Nat × Pr)} {y : Operand} {l : List α} {z : NL α} (h : Od Γ y (isV l)) (hz : nlO l = some z) : Od Γ y (isV z) := od_mono h fun _ _ q => by
  obtain ⟨h1, h2⟩ := nlO_some hz
  refine ⟨by rw [h1]; exact q, fun e => absurd (h1 ▸ e) h2⟩
theorem odnilNL {α : Type} [Enc α] {Γ : List (Nat × Pr)} : Od Γ (.const (.slice none 0 0)) (isV (⟨[]⟩ : NL α)) := fun _ => ⟨.inl ⟨none, 0, rfl, Nat.zero_le _, rfl⟩, fun _ => rfl⟩
section
variable {P : Program} {Γ : List (Nat × Pr)} {ty : TypeId}
theorem sp_eqlNL {α : Type} [Enc α] {x : Operand} {T T' E : TypeId} {xs : NL α} (hT : P.underlying T = some (.slice E)) (hx : Od Γ x (isV xs)) : StepP P (.binOp .eql T x (.const (.slice none 0 0)) T') ty Γ (isV (xs.l.isEmpty)) :=
  step_pure fun c w a hc hm => by
    obtain ⟨h1, h2⟩ : slice c.c (a.eval x) xs.l ∧ (xs.l = [] → a.eval x = .slice none 0 0) := hx.get hm (by simp [Op.operands])
    have hn : a.eval (.const (.slice none 0 0)) = .slice none 0 0 := rfl
    rcases h1 with ⟨a', cap, hv, _, he⟩ | ⟨b, off, cap, hv, hle, _, _⟩
    · have hv := h2 he
      refine ⟨.bool true, ?_, by rw [he]; rfl⟩
      simp [execOp, plain, hv, hn, eqGuard, binOp, run_equal_slice_nil w T E none 0 0 hT]
    · by_cases e : xs.l = []
      · have hv' := h2 e
        rw [hv] at hv'; cases hv'
      · refine ⟨.bool false, ?_, ?_⟩
        · simp [execOp, plain, hv, hn, eqGuard, binOp, run_equal_slice_nil w T E (some ⟨b, off, none⟩) xs.l.length cap hT]
        · cases hl : xs.l with
          | nil => exact absurd hl e
          | cons => rfl
theorem sp_neqNL {α : Type} [Enc α] {x : Operand} {T T' E : TypeId} {xs : NL α} (hT : P.underlying T = some (.slice E)) (hx : Od Γ x (isV xs)) : StepP P (.binOp .neq T x (.const (.slice none 0 0)) T') ty Γ (isV (!xs.l.isEmpty)) :=
  step_pure fun c w a hc hm => by
    obtain ⟨h1, h2⟩ : slice c.c (a.eval x) xs.l ∧ (xs.l = [] → a.eval x = .slice none 0 0) := hx.get hm (by simp [Op.operands])
    have hn : a.eval (.const (.slice none 0 0)) = .slice none 0 0 := rfl
    rcases h1 with ⟨a', cap, hv, _, he⟩ | ⟨b, off, cap, hv, hle, _, _⟩
    · have hv := h2 he
      refine ⟨.bool false, ?_, by rw [he]; rfl⟩
      simp [execOp, plain, hv, hn, eqGuard, binOp, run_equal_slice_nil w T E none 0 0 hT]
    · by_cases e : xs.l = []
      · have hv' := h2 e
        rw [hv] at hv'; cases hv'
      · refine ⟨.bool true, ?_, ?_⟩
        · simp [execOp, plain, hv, hn, eqGuard, binOp, run_equal_slice_nil w T E (some ⟨b, off, none⟩) xs.l.length cap hT]
        · cases hl : xs.l with
          | nil => exact absurd hl e
          | cons => rfl
end
end Go.Proofs.YtnnhmgcigoiceaaGreatDoor.Wh
