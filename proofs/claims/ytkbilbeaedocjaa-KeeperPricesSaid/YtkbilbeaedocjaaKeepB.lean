/-
  What is proved: on valid markets the widths of keeper and of the specification are the same table.
-/
import Derived.Test.YtkbilbeaedocjaaKeepA
namespace Go.Proofs.Ytkbilbeaedocjaa
open Go Go.Proofs.Ytkbilbeaedocjaa.Wh

/-! ### lists of offers by bits -/
def sel (k s : Nat) : List Nat := (List.range k).filter fun i => s.testBit i
def cst (l : List Nat) : List Int := l.map fun (i : Nat) => (i : Int)
theorem sel_succ (k s : Nat) : sel (k + 1) s = if s.testBit k = true then sel k s ++ [k] else sel k s := by
  unfold sel
  rw [List.range_succ, List.filter_append]
  cases h : s.testBit k <;> simp [h]
theorem sel_len (k s : Nat) : (sel k s).length ≤ k := by
  have := List.length_filter_le (fun i => s.testBit i) (List.range k)
  rwa [List.length_range] at this
theorem sel_lt {k s i : Nat} (h : i ∈ sel k s) : i < k := by
  unfold sel at h
  simp at h
  exact h.1
theorem sel_up {k s : Nat} (hs : s < 2 ^ k) : ∀ d, sel (k + d) s = sel k s
  | 0 => rfl
  | d + 1 => by
    rw [show k + (d + 1) = (k + d) + 1 from rfl, sel_succ, sel_up hs d]
    have : s.testBit (k + d) = false := Nat.testBit_lt_two_pow (Nat.lt_of_lt_of_le hs (Nat.pow_le_pow_right (by decide) (by omega)))
    rw [this]; rfl
theorem sel_12 {k s : Nat} (hk : k ≤ 12) (hs : s < 2 ^ k) : sel 12 s = sel k s := by
  have := sel_up hs (12 - k)
  rwa [show k + (12 - k) = 12 from by omega] at this
theorem app_cst {l : List Nat} {k : Nat} (h : l.length ≤ 4096) : app (cst l) [(k : Int)] = some (cst (l ++ [k])) := by
  unfold app
  rw [if_pos (by simp [cst]; omega)]
  simp [cst]
theorem f118_eq (s : Nat) : M.f118 (s : Int) = some (cst (sel 12 s)) := by
  unfold M.f118
  obtain ⟨l, h1, rfl⟩ := forS_inv (N := 12) (s := ([] : List Int)) (f := fun i_1 s_3 => (shr (s : Int) i_1) >>= fun v_8 => (if ((band v_8 1) == 1) = true then ((app s_3 ([i_1] : List Int)) >>= fun z_13 => some z_13) else (some s_3)) >>= fun y_11 => some y_11)
    (fun j l => l = cst (sel j s)) (by decide) rfl fun j l hj hl => by
      subst hl
      have hl := sel_len j s
      refine ⟨_, ?_, rfl⟩
      simp only [shr_nat (show j ≤ 64 by omega), Option.bind_eq_bind, Option.bind_some, bit_of, sel_succ]
      cases s.testBit j with
      | false => rfl
      | true => simp only [if_true]; rw [app_cst (by omega)]; rfl
  exact bnd h1 rfl
theorem f74_eq (n : Int) (kn of : List S_api_Offer) (s : Nat) (ho : of.length ≤ 12) : M.f74 1000 (n, kn, of) (s : Int) = some (cst (sel of.length s)) := by
  unfold M.f74
  refine bnd (y := cst (sel of.length s)) ?_ rfl
  obtain ⟨r, h1, h2⟩ := loopM_inv (ρ := List Int) (f := fun s_1 : Int × (List Int) => (if (decide (s_1.1 < (of.length : Int))) = true then ((shr (s : Int) s_1.1) >>= fun v_6 => (if ((band v_6 1) == 1) = true then ((app s_1.2 ([s_1.1] : List Int)) >>= fun z_11 => some z_11) else (some s_1.2)) >>= fun y_9 => some (.again ((wr (s_1.1 + 1)), y_9))) else (some (.leave s_1.2))))
    (fun m st => m ≤ of.length ∧ st = (((of.length - m : Nat) : Int), cst (sel (of.length - m) s))) (fun r => r = cst (sel of.length s)) 1000 of.length (0, []) (by omega) ⟨Nat.le_refl _, by simp [sel, cst]⟩ fun m st ⟨hm, hst⟩ => by
      subst hst
      cases m with
      | zero => exact ⟨_, by rw [if_neg (by simp)], by simp [OutP]⟩
      | succ m =>
        have hl := sel_len (of.length - (m + 1)) s
        refine ⟨.again (((of.length - m : Nat) : Int), cst (sel (of.length - m) s)), ?_, m, by omega, by omega, rfl⟩
        rw [if_pos (by simp; omega), show of.length - m = of.length - (m + 1) + 1 from by omega]
        generalize hj : of.length - (m + 1) = j at *
        have hj2 : j < of.length := by omega
        simp only [shr_nat (show j ≤ 64 by omega), Option.bind_eq_bind, Option.bind_some, bit_of, sel_succ]
        rw [wr_id (by omega) (by omega)]
        cases s.testBit j with
        | false => rfl
        | true => simp only [if_true]; rw [app_cst (by omega)]; rfl
  rw [← h2]; exact h1
end Go.Proofs.Ytkbilbeaedocjaa
