/-
  What is proved: slices.SortFunc at the pairs of fronts.
-/
import Derived.Test.YtkbilbeaedocjaaWalkA
import Derived.Test.YtkbilbeaedocjaaGivenMb
import Derived.Test.YtkbilbeaedocjaaSort
import Derived.Test.YtkbilbeaedocjaaShelf
import Derived.Test.YtkbilbeaedocjaaPlain
namespace Go.Proofs.Ytkbilbeaedocjaa
open Go Go.RowKit Go.Proofs.Ytkbilbeaedocjaa.Wh
open Go.Proofs (ltOf)
open Go.Sort (SWO)

def pairCmp (x y : Vector Int 2) : Int := if x[0] < y[0] then -1 else if y[0] < x[0] then 1 else if x[1] < y[1] then -1 else if y[1] < x[1] then 1 else 0
theorem g125_eq (x y : Int) : M.f125 x y = some (if x < y then -1 else if y < x then 1 else 0) := by
  have h : ∀ z, M.f131 z = some false := fun z => by unfold M.f131; simp
  unfold M.f125
  simp only [h, Option.bind_eq_bind, Option.bind_some, Bool.false_eq_true, if_false, decide_eq_true_eq]
  split
  · rfl
  · split <;> rfl
theorem f123_eq (x y : Vector Int 2) : M.f123 x y = some (pairCmp x y) := by
  have h0 : ∀ z : Vector Int 2, idxA z 0 = some z[0] := fun z => by simp [idxA, idx]
  have h1 : ∀ z : Vector Int 2, idxA z 1 = some z[1] := fun z => by simp [idxA, idx]
  unfold M.f123
  simp only [h0, h1, g125_eq, Option.bind_eq_bind, Option.bind_some]
  unfold M.f124 pairCmp
  simp only [Wh.forM, List.length_cons, List.length_nil, idx, Out.elim]
  have n2 : ((((0 + 1 + 1 : Nat) : Int) - 0).toNat) = 2 := rfl
  simp only [n2, forFrom]
  by_cases a1 : x[0] < y[0]
  · simp [a1]
  · by_cases a2 : y[0] < x[0]
    · simp [a1, a2]
    · by_cases a3 : x[1] < y[1]
      · simp [a1, a2, a3]
      · by_cases a4 : y[1] < x[1] <;> simp [a1, a2, a3, a4]
theorem pair_lt (x y : Vector Int 2) : ltOf pairCmp x y = (decide (x[0] < y[0]) || (x[0] == y[0] && decide (x[1] < y[1]))) := by
  unfold ltOf pairCmp
  apply Bool.eq_iff_iff.2
  simp
  split <;> (try split) <;> (try split) <;> (try split) <;> omega
theorem pair_swo : SWO (ltOf pairCmp) where
  irrefl x := by rw [pair_lt]; simp
  trans x y z h1 h2 := by rw [pair_lt] at *; simp at *; omega
  ntrans x y z h1 h2 := by rw [pair_lt] at *; simp at *; omega
def pairEnc (x : Vector Int 2) : List Value := [.int .i64 x[0], .int .i64 x[1]]
theorem vec2 {x : Vector Int 2} : x.toList = [x[0], x[1]] := by
  apply List.ext_getElem?
  intro i
  match i with
  | 0 => simp
  | 1 => simp
  | i + 2 => simp
theorem pair_rep (c : Mem) (vs : List Value) (x : Vector Int 2) : Enc.rep c vs x ↔ vs = pairEnc x := by
  show RepL c vs x.toList ↔ _
  rw [vec2]
  constructor
  · rintro ⟨v1, v2, rfl, h1, u1, u2, rfl, h2, rfl⟩
    obtain ⟨a, rfl, ha⟩ := rep1_out h1
    obtain ⟨b, rfl, hb⟩ := rep1_out h2
    have ha : a = .int .i64 x[0] := ha
    have hb : b = .int .i64 x[1] := hb
    subst ha; subst hb
    rfl
  · rintro rfl
    exact ⟨[_], [_], rfl, rfl, [_], [], rfl, rfl, rfl⟩
theorem f122_ok {p0 r : List (Vector Int 2)} (h : M.f122 p0 (fun x0 x1 => M.f123 x0 x1) = some r) : CallM Try.prog 122 54 p0 r [isV (fun x0 x1 => M.f123 x0 x1)] := by
  unfold M.f122 at h
  split at h
  · rename_i hlen
    cases h
    intro F w v vs hF hob hO hfit
    match vs, hfit with
    | [fv], ⟨hfn, _⟩ =>
      have hfn : (isFn Try.prog (X := Vector Int 2 × Vector Int 2) (Y := Int) (fun x => [isV x.1, isV x.2]) (fun y => isV y) (fun x => M.f123 x.1 x.2)).p ⟨vw F w, vw F w⟩ fv := hfn
      obtain ⟨cells, hrow, hrl⟩ := hO.row
      rcases hrow.2 with ⟨rfl, hx0⟩ | ⟨g, cap, cur, rfl, _, hheap, hlc, hcm, _⟩
      · have hnil : p0 = [] := List.eq_nil_of_length_eq_zero hx0
        subst hnil
        have := AnyF.slices_SortFunc_none (P := Try.prog) (ρ := Try.sortP_ren) Try.sortP none 0 fv w
        refine this.mono fun e w' ⟨he, hw⟩ => ?_
        subst hw
        exact ⟨he, fun B _ _ => Wh.Below.refl _ _, fun _ _ _ => rfl, own_nil⟩
      · have hg : F g = true := hob g (ob_iff.2 rfl)
        have hgl := hF g hg
        rcases hfn with ⟨_, hnone⟩ | ⟨gf, κs, cb, rfl, hent, hkf, hc⟩
        · have : M.f123 #v[0, 0] #v[0, 0] = none := hnone (#v[0, 0], #v[0, 0])
          rw [f123_eq] at this
          cases this
        · have hlays := cmp_lays (P := Try.prog) (enc := pairEnc) pair_rep rfl (c := fun x y => M.f123 x y) (cf := pairCmp) f123_eq (xs := p0) hF hg hkf (fun x y => hc x y)
          have hs := AnyQ.slices_SortFunc_total (P := Try.prog) (ρ := Try.sortP_ren) Try.sortP 2 Try.isAgg54 Try.sizeOf54 pairEnc (fun _ => rfl) (fun x u hu => by simp [pairEnc] at hu; rcases hu with rfl | rfl <;> rfl) pairCmp pair_swo gf cb g 0 cap p0.toArray w (fun args w => hent args w)
            (by rw [List.size_toArray]; exact hlays) (holds_own pair_rep hO) hgl (by simp; omega) (fun x y h1 h2 => by
              rw [pair_lt] at h1 h2
              simp at h1 h2
              have e0 : x[0] = y[0] := by omega
              have e1 : x[1] = y[1] := by omega
              apply Vector.ext
              intro i hi
              match i, hi with
              | 0, _ => exact e0
              | 1, _ => exact e1)
          have e : (#[.slice (some ⟨g, 0, none⟩) p0.toArray.size cap, .func (.func gf) #[] cb] : Array Value) = [.slice (some ⟨g, 0, none⟩) p0.length cap, .func (.func gf) #[] cb].toArray := by simp
          rw [e] at hs
          refine hs.mono fun e w' ⟨he, m, os, hw⟩ => ?_
          have hsort : (p0.mergeSort fun x y => !(ltOf pairCmp) y x) = isort (fun x y => decide (x[0] < y[0]) || (x[0] == y[0] && decide (x[1] < y[1]))) p0 := by
            refine List.Perm.eq_of_pairwise (le := fun a b => ltOf pairCmp b a = false) (fun a b _ _ h1 h2 => ?_) ?_ ?_ ?_
            · rw [pair_lt] at h1 h2
              simp at h1 h2
              have e0 : a[0] = b[0] := by omega
              have e1 : a[1] = b[1] := by omega
              apply Vector.ext
              intro i hi
              match i, hi with
              | 0, _ => exact e0
              | 1, _ => exact e1
            · refine (List.pairwise_mergeSort (le := fun x y => !(ltOf pairCmp) y x) (fun a b c h1 h2 => ?_) (fun a b => ?_) p0).imp (fun h => by simpa using h)
              · rw [pair_lt] at *; simp at *; omega
              · rw [pair_lt, pair_lt]; simp; omega
            · have := isort_sorted (fun x y : Vector Int 2 => decide (x[0] < y[0]) || (x[0] == y[0] && decide (x[1] < y[1]))) (fun a b c h1 h2 => by simp at *; omega) (fun a b h1 => by simp at *; omega) p0
              exact this.imp (fun h => by rw [pair_lt]; exact h)
            · exact (List.mergeSort_perm p0 _).trans (isort_perm _ p0).symm
          have hpost := sort_post (enc := pairEnc) pair_rep (m := m) (os := os) (w' := w') (zs := isort (fun x y => decide (x[0] < y[0]) || (x[0] == y[0] && decide (x[1] < y[1]))) p0) hO (isort_perm _ p0).length_eq (by rw [← hsort]; exact hw)
          exact ⟨he, hpost.1, hpost.2.1, hpost.2.2⟩
  · cases h
end Go.Proofs.Ytkbilbeaedocjaa
