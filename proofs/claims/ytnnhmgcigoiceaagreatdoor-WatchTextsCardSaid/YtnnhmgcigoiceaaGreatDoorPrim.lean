/-
  The words that models are made of; nothing is claimed here.
-/
import GoSem.Core.View
namespace Go.Proofs.YtnnhmgcigoiceaaGreatDoor.Wh
open Go
def wr (n : Int) : Int := IntKind.i64.wrap n
def imin (m n : Int) : Int := if n < m then n else m
def imax (m n : Int) : Int := if m < n then n else m
/-- The element of a number, if there is one. -/
def idx {α : Type} (xs : List α) (k : Int) : Option α := if k < 0 then none else xs[k.toNat]?
/-- What is reckoned only behind a test. -/
def guardO {α : Type} [Inhabited α] (G : Bool) (x : Option α) : Option α := match G with | true => x | false => some default
def app {α : Type} (xs ys : List α) : Option (List α) := if xs.length + ys.length ≤ 4294967296 then some (xs ++ ys) else none
def set1 {α : Type} (r : List α) (j : Int) (z : α) : Option (List α) := if j < 0 then none else if j.toNat < r.length then some (r.set j.toNat z) else none
def mk {α : Type} (n : Int) (x : α) : Option (List α) := if 0 ≤ n ∧ n ≤ 4294967296 then some (List.replicate n.toNat x) else none
def idxA {α : Type} {n : Nat} (x : Vector α n) (k : Int) : Option α := idx x.toList k
def setA {α : Type} {n : Nat} (x : Vector α n) (k : Int) (z : α) : Option (Vector α n) := if h : 0 ≤ k ∧ k.toNat < n then some (x.set k.toNat z h.2) else none
/-- The first k elements. -/
def cut {α : Type} (xs : List α) (k : Int) : Option (List α) := if 0 ≤ k ∧ k.toNat ≤ xs.length then some (xs.take k.toNat) else none
/-- The elements from a number on. -/
def cutF {α : Type} (xs : List α) (k : Int) : Option (List α) := if 0 ≤ k ∧ k.toNat ≤ xs.length then some (xs.drop k.toNat) else none
def fullO {α : Type} (xs : List α) (k : Int) : Option (List α) := if k = (xs.length : Int) then some xs else none
def fullB {α : Type} (xs : List α) (k m : Int) : Option (List α) := if k = (xs.length : Int) ∧ m = (xs.length : Int) then some xs else none
def appF {α : Type} (xs ys : List α) : Option (List α) := if ys.length = 0 then none else app xs ys
def mget (m : List (Int × Bool)) (i : Int) : Bool := match m with
  | [] => false
  | (k, v) :: r => if i = k then v else mget r i
def mset (m : List (Int × Bool)) (i : Int) (v : Bool) : List (Int × Bool) := match m with
  | [] => [(i, v)]
  | (k, u) :: r => if i = k then (i, v) :: r else (k, u) :: mset r i v
/-- The first elements of an array, set to those of a list. -/
def copyA {α : Type} {n : Nat} (x : Vector α n) (ys : List α) : Vector α n := ⟨(ys.take n ++ x.toList.drop (ys.take n).length).toArray, by simp; omega⟩
structure NL (α : Type) where
  l : List α
instance {α : Type} : Inhabited (NL α) := ⟨⟨[]⟩⟩
def nlO {α : Type} (l : List α) : Option (NL α) := match l with
  | [] => none
  | x :: r => some ⟨x :: r⟩
/-! ### loops -/
inductive Out (σ ρ : Type) where
  | again (s : σ)
  | leave (r : ρ)
def Out.elim {σ ρ β : Type} (o : Out σ ρ) (f : σ → β) (g : ρ → β) : β := match o with | .again s => f s | .leave r => g r
def sumE {α β γ : Type} (x : α ⊕ β) (f : α → γ) (g : β → γ) : γ := match x with | .inl a => f a | .inr b => g b
def forFrom {σ ρ : Type} (f : Int → σ → Option (Out σ ρ)) : Nat → Int → σ → Option (Out σ ρ)
  | 0, _, s => some (.again s)
  | k + 1, i, s => match f i s with
    | none => none
    | some (.again s') => forFrom f k (i + 1) s'
    | some (.leave r) => some (.leave r)
/-- Rounds for i = a, a + 1, .. below n. -/
def forM {σ ρ : Type} (a n : Int) (s : σ) (f : Int → σ → Option (Out σ ρ)) : Option (Out σ ρ) := if -4294967296 ≤ a ∧ n ≤ 4294967296 then forFrom f (n - a).toNat a s else none
def stepsFrom {σ : Type} (f : Int → σ → Option σ) : Nat → Int → σ → Option σ
  | 0, _, s => some s
  | k + 1, i, s => match f i s with
    | none => none
    | some s' => stepsFrom f k (i + 1) s'
def forS {σ : Type} (a n : Int) (s : σ) (f : Int → σ → Option σ) : Option σ := if -4294967296 ≤ a ∧ n ≤ 4294967296 then stepsFrom f (n - a).toNat a s else none
def loopM {σ ρ : Type} (f : σ → Option (Out σ ρ)) : Nat → σ → Option ρ
  | 0, _ => none
  | k + 1, s => match f s with
    | none => none
    | some (.again s') => loopM f k s'
    | some (.leave r) => some r
end Go.Proofs.YtnnhmgcigoiceaaGreatDoor.Wh
