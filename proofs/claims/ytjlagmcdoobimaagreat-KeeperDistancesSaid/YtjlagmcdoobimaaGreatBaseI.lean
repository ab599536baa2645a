/-
  What is proved: arrays as values: built out of their elements, empty, and read.
  regions that lay variables in memory and set them once, in any order among operations that change nothing that was there.
  variables of the call's own that hold headers of own slices: places in them, what is set there, what is read.
  calls that change what they are handed: a callee's things lie ahead of a frame that it does not know; the order of things does not matter.
  elements of arrays of the call's own that are set; own slices cut short; function values that hold the place of their own variable.
-/
import Derived.Test.YtjlagmcdoobimaaGreatBaseD
namespace Go.Proofs.YtjlagmcdoobimaaGreat.Wh
open Go Go.RowKit
section
variable {P : Program} {Γ : List (Nat × Pr)} {ty : TypeId}
end
end Go.Proofs.YtjlagmcdoobimaaGreat.Wh

namespace Go.Proofs.YtjlagmcdoobimaaGreat.Wh
open Go Go.RowKit

def Item.void : Item := ⟨fun _ => false, fun _ _ => True, fun h _ _ _ => h⟩
/-- A variable that a region lays (operation ai, slot d) and sets (operation si). -/
structure PairS where
  ai : Nat
  si : Nat
  d : Nat
  T : TypeId
  α : Type
  enc : Enc α
  x0 : α
  x : α
def PairS.item (p : PairS) (s : Option Nat × Bool) : Item := match s with
  | (none, _) => Item.void
  | (some b, false) => @Item.box p.α p.enc p.T b p.x0
  | (some b, true) => @Item.box p.α p.enc p.T b p.x
def itemsP (ps : List PairS) (ss : List (Option Nat × Bool)) : List Item := List.zipWith PairS.item ps ss
section
variable {P : Program} {Γ : List (Nat × Pr)} {n : Nat} {F0 : Nat → Bool} {js : List Item} {w0 w : World} {a : Act} {ops : Array Oper}
variable {ks : List Nat} {es : List (Option Tmp × Pr)} {ps : List PairS}
structure InvP (n : Nat) (F0 : Nat → Bool) (js : List Item) (ps : List PairS) (ops : Array Oper) (es : List (Option Tmp × Pr)) (Γ : List (Nat × Pr)) (w0 : World) (listed : Array Bool) (ss : List (Option Nat × Bool)) (a : Act) (w : World) : Prop where
  size : listed.size = ops.size
  closed : ∀ j, listed.getD j false = true → ∀ i, ((masksFrom ops.toList []).getD j 0).testBit i = true → listed.getD i false = true
  st : St n F0 (js ++ itemsP ps ss) (gam (fun k => listed.getD k false) es 0 Γ) w0 a w
  len : ss.length = ps.length
  al : ∀ (k : Nat) (p : PairS) (s : Option Nat × Bool), ps[k]? = some p → ss[k]? = some s → listed.getD p.ai false = s.1.isSome ∧ listed.getD p.si false = s.2 ∧ ∀ b, s.1 = some b → tmp a p.d = .pointer (some ⟨b, 0, none⟩)
/-! ### by the text -/
end
end Go.Proofs.YtjlagmcdoobimaaGreat.Wh

namespace Go.Proofs.YtjlagmcdoobimaaGreat.Wh
open Go Go.RowKit

/-- What a variable holds when a part of it is set. -/
structure SetF {α β : Type} [Enc α] [Enc β] (off : Nat) (x : α) (z : β) (x' : α) : Prop where
  out : ∀ (c : Mem) (l m : List Value), Enc.rep c l x → Enc.rep c m z → off + m.length ≤ l.length ∧ Enc.rep c (l.take off ++ m ++ l.drop (off + m.length)) x'
/-- A header that is a list from here on. -/
structure UnR {α α' β : Type} [Enc α] [Enc α'] [Enc β] (v : Value) (l : List β) (x : α) (x' : α') : Prop where
  out : ∀ (c : Mem) (cs : List Value), val c v l → Enc.rep c cs x → Enc.rep c cs x'
structure FieldO (P : Program) (T : TypeId) (k o : Nat) : Prop where
  out : ∃ fs fd i, P.underlying T = some (.struct fs) ∧ fs[k]? = some fd ∧ P.info? fd.type = some i ∧ i.size ≠ 0 ∧ fd.offset = o
theorem FieldO.mk' {P : Program} {T : TypeId} {k o : Nat} {fs : Array Field} {fd : Field} (h1 : P.underlying T = some (.struct fs)) (h2 : fs[k]? = some fd) (h3 : (P.info? fd.type).map (fun i => Nat.beq i.size 0) = some false) (h4 : fd.offset = o) : FieldO P T k o := by
  cases h : P.info? fd.type with
  | none => rw [h] at h3; cases h3
  | some i =>
    rw [h] at h3
    simp only [Option.map_some, Option.some.injEq] at h3
    exact ⟨⟨fs, fd, i, h1, h2, h, (fun e => by rw [e] at h3; cases h3), h4⟩⟩
section
variable {P : Program} {Γ : List (Nat × Pr)} {ty : TypeId} {n : Nat} {F0 : Nat → Bool} {js : List Item} {w0 w : World} {a : Act} {ops : Array Oper} {Q : Exit → Act → World → Prop}
variable {t : TypeId} {ps : String} {af : Array Edge} {r : List Oper} {Δ : List (Nat × Pr)}
end
end Go.Proofs.YtjlagmcdoobimaaGreat.Wh

namespace Go.Proofs.YtjlagmcdoobimaaGreat.Wh
open Go Go.RowKit

/-! ### the order of things -/
section
variable {P : Program} {Γ : List (Nat × Pr)} {n : Nat} {F0 : Nat → Bool} {js : List Item} {w0 w : World} {a : Act} {ops : Array Oper} {Q : Exit → Act → World → Prop}
/-! ### calls that change things -/
structure Wst (F0 : Nat → Bool) (js : List Item) (w0 w : World) : Prop where
  lt : ∀ b, pf F0 (Its js) b = true → b < w.heap.size
  apart : Apart (Its js)
  own : ∀ (k : Nat) (it : Item), js[k]? = some it → it.p (vw (pf F0 (Its js)) w) w
  low : ∀ (k : Nat) (it : Item) (b : Nat), js[k]? = some it → it.o b = true → w0.heap.size ≤ b
  below : Below w0.heap.size w0 w
  base : ∀ b, F0 b = true → b < w0.heap.size
/-- What a call leaves: things and a result; what else is said of them. -/
structure ResF where
  X : Type
  js : X → List Item
  φ : X → Pr
def CallF (P : Program) (f : FuncId) (js : List Item) (φs : List Pr) (ρ : ResF) : Prop :=
  ∀ (F0 : Nat → Bool) (fr : List Item) (w0 w : World) (vs : List Value), Wst F0 (js ++ fr) w0 w → Fit (v2 (pf F0 (Its (js ++ fr))) w) φs vs →
    Calls P f vs.toArray w fun e w' => ∃ v x, e = .returned v ∧ Wst F0 (ρ.js x ++ fr) w0 w' ∧ Mem.le (vw (pf F0 (Its (js ++ fr))) w) (vw (pf F0 (Its (ρ.js x ++ fr))) w') ∧ (ρ.φ x).p (v2 (pf F0 (Its (ρ.js x ++ fr))) w') v
variable {t : TypeId} {ps : String} {af : Array Edge} {r : List Oper} {Δ : List (Nat × Pr)}
end
end Go.Proofs.YtjlagmcdoobimaaGreat.Wh

namespace Go.Proofs.YtjlagmcdoobimaaGreat.Wh
open Go Go.RowKit

section
variable {P : Program} {Γ : List (Nat × Pr)} {ty : TypeId} {n : Nat} {F0 : Nat → Bool} {js : List Item} {w0 w : World} {a : Act} {ops : Array Oper} {Q : Exit → Act → World → Prop}
/-! ### a function value that holds the place of its own variable -/
variable {t : TypeId} {ps : String} {af : Array Edge} {r : List Oper} {Δ : List (Nat × Pr)}
/-! ### own slices cut short -/
/-! ### own slices that are laid with what they hold -/
end
/-! ### short words for what walks say often -/
section
variable {P : Program} {Γ : List (Nat × Pr)} {ops : Array Oper} {d : Nat} {t : TypeId} {ps : String} {af : Array Edge} {r : List Oper} {K : List (Nat × Pr) → Prop} {φ : Pr}
theorem cg {op : Op} (h : StepP P op t Γ φ) (k : SeqK P ops r ((d, φ) :: Γ) K) (hs : ∀ cs b, op ≠ .select cs b := by intros; nofun) : SeqK P ops (⟨some d, op, t, ps, af, none⟩ :: r) Γ K := sc (sg h hs) k
theorem mv {x : Nat} (h : lk Γ x = some φ) (k : SeqK P ops r ((d, φ) :: Γ) K) : SeqK P ops (⟨some d, .move (.tmp x), t, ps, af, none⟩ :: r) Γ K := cg (sp_move (od h)) k
theorem et {K : Act → World → Prop} {Q : Exit → Act → World → Prop} {a : Act} {w : World} (h : K a w) : Exit.then K Q .normal a w := h
theorem ws {Q : Exit → Act → World → Prop} {a : Act} {w : World} {x y : Code} (h : x.wp P (Exit.then (y.wp P Q) Q) a w) : (Code.seq x y).wp P Q a w := wp_seq h
end
end Go.Proofs.YtjlagmcdoobimaaGreat.Wh
