/-
  The words that models are made of; nothing is claimed here.
-/
import GoSem.Core.View
namespace Go.Proofs.YtjlagmcdoobimaaGreatDoor.Wh
open Go
def wr (n : Int) : Int := IntKind.i64.wrap n
def band (m n : Int) : Int := wr (BitVec.ofInt 64 m &&& BitVec.ofInt 64 n).toNat
def bor (m n : Int) : Int := wr (BitVec.ofInt 64 m ||| BitVec.ofInt 64 n).toNat
def bclr (m n : Int) : Int := wr (BitVec.ofInt 64 m &&& ~~~(BitVec.ofInt 64 n)).toNat
/-- Shifts: by no negative number of places. -/
def shl (m n : Int) : Option Int := if n < 0 then none else some (wr (m * 2 ^ (min n.toNat 64)))
def shr (m n : Int) : Option Int := if n < 0 then none else some (m.fdiv (2 ^ (min n.toNat 64)))
def imin (m n : Int) : Int := if n < m then n else m
/-- The element of a number, if there is one. -/
def idx {α : Type} (xs : List α) (k : Int) : Option α := if k < 0 then none else xs[k.toNat]?
/-- What is reckoned only behind a test. -/
def guardO {α : Type} [Inhabited α] (G : Bool) (x : Option α) : Option α := match G with | true => x | false => some default
def app {α : Type} (xs ys : List α) : Option (List α) := if xs.length + ys.length ≤ 4294967296 then some (xs ++ ys) else none
def set1 {α : Type} (r : List α) (j : Int) (z : α) : Option (List α) := if j < 0 then none else if j.toNat < r.length then some (r.set j.toNat z) else none
def set2 {α : Type} (rows : List (List α)) (i j : Int) (z : α) : Option (List (List α)) := idx rows i >>= fun r => set1 r j z >>= fun r' => set1 rows i r'
def mk {α : Type} (n : Int) (x : α) : Option (List α) := if 0 ≤ n ∧ n ≤ 4294967296 then some (List.replicate n.toNat x) else none
def idxA {α : Type} {n : Nat} (x : Vector α n) (k : Int) : Option α := idx x.toList k
def setA {α : Type} {n : Nat} (x : Vector α n) (k : Int) (z : α) : Option (Vector α n) := if h : 0 ≤ k ∧ k.toNat < n then some (x.set k.toNat z h.2) else none
structure NL (α : Type) where
  l : List α
instance {α : Type} : Inhabited (NL α) := ⟨⟨[]⟩⟩
/-- A stable sort; structural. -/
def ins {α : Type} (lt : α → α → Bool) (x : α) : List α → List α
  | [] => [x]
  | y :: r => if lt y x then y :: ins lt x r else x :: y :: r
def isort {α : Type} (lt : α → α → Bool) : List α → List α
  | [] => []
  | x :: r => ins lt x (isort lt r)
/-! ### loops -/
inductive Out (σ ρ : Type) where
  | again (s : σ)
  | leave (r : ρ)
def Out.elim {σ ρ β : Type} (o : Out σ ρ) (f : σ → β) (g : ρ → β) : β := match o with | .again s => f s | .leave r => g r
def sumE {α β γ : Type} (x : α ⊕ β) (f : α → γ) (g : β → γ) : γ := match x with | .inl a => f a | .inr b => g b
def forFrom {σ ρ : Type} (f : Int → σ → Option (Out σ ρ)) : Nat → Int → σ → Option (Out σ ρ)
  | 0, _, s => some (.again s)
  | k + 1, i, s => match f i s with
    | none => none
    | some (.again s') => forFrom f k (i + 1) s'
    | some (.leave r) => some (.leave r)
/-- Rounds for i = a, a + 1, .. below n. -/
def forM {σ ρ : Type} (a n : Int) (s : σ) (f : Int → σ → Option (Out σ ρ)) : Option (Out σ ρ) := if -4294967296 ≤ a ∧ n ≤ 4294967296 then forFrom f (n - a).toNat a s else none
def stepsFrom {σ : Type} (f : Int → σ → Option σ) : Nat → Int → σ → Option σ
  | 0, _, s => some s
  | k + 1, i, s => match f i s with
    | none => none
    | some s' => stepsFrom f k (i + 1) s'
def forS {σ : Type} (a n : Int) (s : σ) (f : Int → σ → Option σ) : Option σ := if -4294967296 ≤ a ∧ n ≤ 4294967296 then stepsFrom f (n - a).toNat a s else none
def loopM {σ ρ : Type} (f : σ → Option (Out σ ρ)) : Nat → σ → Option ρ
  | 0, _ => none
  | k + 1, s => match f s with
    | none => none
    | some (.again s') => loopM f k s'
    | some (.leave r) => some r
end Go.Proofs.YtjlagmcdoobimaaGreatDoor.Wh
