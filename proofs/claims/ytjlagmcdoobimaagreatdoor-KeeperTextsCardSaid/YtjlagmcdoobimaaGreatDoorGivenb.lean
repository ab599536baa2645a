/-
  What is proved: slices.SortFunc at the pairs of fronts.
-/
import Derived.Test.YtjlagmcdoobimaaGreatDoorWalkA
import Derived.Test.YtjlagmcdoobimaaGreatDoorGivenMb
import Derived.Test.YtjlagmcdoobimaaGreatDoorSort
import Derived.Test.YtjlagmcdoobimaaGreatDoorCmp
import Derived.Test.YtjlagmcdoobimaaGreatDoorShelf
import Derived.Test.YtjlagmcdoobimaaGreatDoorPlain
namespace Go.Proofs.YtjlagmcdoobimaaGreatDoor
open Go Go.RowKit Go.Proofs.YtjlagmcdoobimaaGreatDoor.Wh
open Go.Proofs (ltOf)
open Go.Sort (SWO)

def pairCmp (x y : Vector Int 2) : Int := if x[0] < y[0] then -1 else if y[0] < x[0] then 1 else if x[1] < y[1] then -1 else if y[1] < x[1] then 1 else 0
theorem pair_lt (x y : Vector Int 2) : ltOf pairCmp x y = (decide (x[0] < y[0]) || (x[0] == y[0] && decide (x[1] < y[1]))) := by
  unfold ltOf pairCmp
  apply Bool.eq_iff_iff.2
  simp
  split <;> (try split) <;> (try split) <;> (try split) <;> omega
theorem pair_swo : SWO (ltOf pairCmp) where
  irrefl x := by rw [pair_lt]; simp
  trans x y z h1 h2 := by rw [pair_lt] at *; simp at *; omega
  ntrans x y z h1 h2 := by rw [pair_lt] at *; simp at *; omega
def pairEnc (x : Vector Int 2) : List Value := [.int .i64 x[0], .int .i64 x[1]]
theorem vec2 {x : Vector Int 2} : x.toList = [x[0], x[1]] := by
  apply List.ext_getElem?
  intro i
  match i with
  | 0 => simp
  | 1 => simp
  | i + 2 => simp
theorem pair_rep (c : Mem) (vs : List Value) (x : Vector Int 2) : Enc.rep c vs x ↔ vs = pairEnc x := by
  show RepL c vs x.toList ↔ _
  rw [vec2]
  constructor
  · rintro ⟨v1, v2, rfl, h1, u1, u2, rfl, h2, rfl⟩
    obtain ⟨a, rfl, ha⟩ := rep1_out h1
    obtain ⟨b, rfl, hb⟩ := rep1_out h2
    have ha : a = .int .i64 x[0] := ha
    have hb : b = .int .i64 x[1] := hb
    subst ha; subst hb
    rfl
  · rintro rfl
    exact ⟨[_], [_], rfl, rfl, [_], [], rfl, rfl, rfl⟩
theorem f58_ok {p0 r : List (Vector Int 2)} (h : M.f58 p0 (fun x0 x1 => M.f59 x0 x1) = some r) : CallM Tryz.prog 58 52 p0 r [Pr.is (.func (.func 59) #[] #[])] := by
  unfold M.f58 at h
  split at h
  · rename_i hlen
    cases h
    intro F w v vs hF hob hO hfit
    match vs, hfit with
    | [fv], ⟨hfn, _⟩ =>
      have hfn : fv = .func (.func 59) #[] #[] := hfn
      subst hfn
      obtain ⟨cells, hrow, hrl⟩ := hO.row
      rcases hrow.2 with ⟨rfl, hx0⟩ | ⟨g, cap, cur, rfl, _, hheap, hlc, hcm, _⟩
      · have hnil : p0 = [] := List.eq_nil_of_length_eq_zero hx0
        subst hnil
        have := AnyF.slices_SortFunc_none (P := Tryz.prog) (ρ := Tryz.sortP_ren) Tryz.sortP none 0 (.func (.func 59) #[] #[]) w
        refine this.mono fun e w' ⟨he, hw⟩ => ?_
        subst hw
        exact ⟨he, fun B _ _ => Wh.Below.refl _ _, fun _ _ _ => rfl, own_nil⟩
      · have hg : F g = true := hob g (ob_iff.2 rfl)
        have hgl := hF g hg
        · have hlays : CmpLays Tryz.prog 59 #[] pairEnc 2 pairCmp g 0 p0.toArray.size w := fun m os dk _ x y => by
            have h := Tryz.pair_cmp x[0] x[1] y[0] y[1] (sortWorldK pairEnc 2 w g 0 m dk os)
            have e : orZ (Lib.compareInt x[0] y[0]) (Lib.compareInt x[1] y[1]) = pairCmp x y := by
              unfold orZ Lib.compareInt pairCmp
              (repeat' split) <;> first | rfl | (exfalso; omega)
            rw [e] at h
            exact h
          have hs := AnyQ.slices_SortFunc_total (P := Tryz.prog) (ρ := Tryz.sortP_ren) Tryz.sortP 2 Tryz.isAgg52 Tryz.sizeOf52 pairEnc (fun _ => rfl) (fun x u hu => by simp [pairEnc] at hu; rcases hu with rfl | rfl <;> rfl) pairCmp pair_swo 59 #[] g 0 cap p0.toArray w (fun args w => en59 args w)
            hlays (holds_own pair_rep hO) hgl (by simp; omega) (fun x y h1 h2 => by
              rw [pair_lt] at h1 h2
              simp at h1 h2
              have e0 : x[0] = y[0] := by omega
              have e1 : x[1] = y[1] := by omega
              apply Vector.ext
              intro i hi
              match i, hi with
              | 0, _ => exact e0
              | 1, _ => exact e1)
          have e : (#[.slice (some ⟨g, 0, none⟩) p0.toArray.size cap, .func (.func 59) #[] #[]] : Array Value) = [.slice (some ⟨g, 0, none⟩) p0.length cap, .func (.func 59) #[] #[]].toArray := by simp
          rw [e] at hs
          refine hs.mono fun e w' ⟨he, m, os, hw⟩ => ?_
          have hsort : (p0.mergeSort fun x y => !(ltOf pairCmp) y x) = isort (fun x y => decide (x[0] < y[0]) || (x[0] == y[0] && decide (x[1] < y[1]))) p0 := by
            refine List.Perm.eq_of_pairwise (le := fun a b => ltOf pairCmp b a = false) (fun a b _ _ h1 h2 => ?_) ?_ ?_ ?_
            · rw [pair_lt] at h1 h2
              simp at h1 h2
              have e0 : a[0] = b[0] := by omega
              have e1 : a[1] = b[1] := by omega
              apply Vector.ext
              intro i hi
              match i, hi with
              | 0, _ => exact e0
              | 1, _ => exact e1
            · refine (List.pairwise_mergeSort (le := fun x y => !(ltOf pairCmp) y x) (fun a b c h1 h2 => ?_) (fun a b => ?_) p0).imp (fun h => by simpa using h)
              · rw [pair_lt] at *; simp at *; omega
              · rw [pair_lt, pair_lt]; simp; omega
            · have := isort_sorted (fun x y : Vector Int 2 => decide (x[0] < y[0]) || (x[0] == y[0] && decide (x[1] < y[1]))) (fun a b c h1 h2 => by simp at *; omega) (fun a b h1 => by simp at *; omega) p0
              exact this.imp (fun h => by rw [pair_lt]; exact h)
            · exact (List.mergeSort_perm p0 _).trans (isort_perm _ p0).symm
          have hpost := sort_post (enc := pairEnc) pair_rep (m := m) (os := os) (w' := w') (zs := isort (fun x y => decide (x[0] < y[0]) || (x[0] == y[0] && decide (x[1] < y[1]))) p0) hO (isort_perm _ p0).length_eq (by rw [← hsort]; exact hw)
          exact ⟨he, hpost.1, hpost.2.1, hpost.2.2⟩
  · cases h
end Go.Proofs.YtjlagmcdoobimaaGreatDoor
