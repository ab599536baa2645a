/-
  Models of library functions, by hand; nothing is claimed here.
-/
import Derived.Test.YtjlagmcdoobimaaGreatData
import Derived.Test.YtjlagmcdoobimaaGreatBaseD
namespace Go.Proofs.YtjlagmcdoobimaaGreat
open Go Go.Proofs.YtjlagmcdoobimaaGreat.Wh
/-- An iterator that slices.Values made: a function that holds a box with the list. -/
structure SeqI where
  l : List Int
instance : Enc SeqI := Enc.single (fun c v x => ∃ b u, v = .func (.func 39) #[] #[.pointer (some ⟨b, 0, none⟩)] ∧ c ⟨b, 0, none⟩ = some u ∧ slice c u x.l) (fun hc h => by obtain ⟨b, u, hv, h1, h2⟩ := h; exact ⟨b, u, hv, hc _ _ h1, slice_mono hc h2⟩) (fun h => by obtain ⟨b, u, rfl, _⟩ := h; rfl)
end Go.Proofs.YtjlagmcdoobimaaGreat
namespace Go.Proofs.YtjlagmcdoobimaaGreat.M
open Go Go.Proofs.YtjlagmcdoobimaaGreat Go.Proofs.YtjlagmcdoobimaaGreat.Wh

/-- slices.Clone[[]waterhour/api.Offer,waterhour/api.Offer] -/
def f73 (p0 : List S_api_Offer) : Option (List S_api_Offer) := if p0.length ≤ 4294967296 then some p0 else none
/-- slices.Grow[[]waterhour/api.Offer,waterhour/api.Offer] of nil -/
def f71 (n : Int) : Option Unit := if 0 ≤ n ∧ n ≤ 1048576 then some () else none
/-- slices.Grow[[]waterhour/api.Span,waterhour/api.Span] of nil -/
def f72 (n : Int) : Option Unit := if 0 ≤ n ∧ n ≤ 1048576 then some () else none
/-- slices.Clone[[]int,int] -/
def f13 (p0 : List Int) : Option (List Int) := if p0.length ≤ 4294967296 then some p0 else none
/-- slices.Values[[]int,int] -/
def f12 (p0 : List Int) : Option SeqI := some ⟨p0⟩
/-- slices.Sorted[int], of what slices.Values gave -/
def f11 (p0 : SeqI) : Option (List Int) := if p0.l.length ≤ 1000 then some (p0.l.mergeSort fun x y => decide (x ≤ y)) else none
end Go.Proofs.YtjlagmcdoobimaaGreat.M
