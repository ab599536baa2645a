/-
  What is proved: keeper.widths and the specification's widths are one table, on valid markets.
-/
import Derived.Test.YtkbilbeaedocjaaKeepC
namespace Go.Proofs.Ytkbilbeaedocjaa
open Go Go.Proofs.Ytkbilbeaedocjaa.Wh

theorem small {p : Nat → Prop} (h : p 2 ∧ p 3 ∧ p 4 ∧ p 5 ∧ p 6 ∧ p 7 ∧ p 8) {n : Nat} (h1 : 2 ≤ n) (h2 : n ≤ 8) : p n := by
  obtain ⟨a, b, c, d, e, f, g⟩ := h
  have : n = 2 ∨ n = 3 ∨ n = 4 ∨ n = 5 ∨ n = 6 ∨ n = 7 ∨ n = 8 := by omega
  rcases this with rfl | rfl | rfl | rfl | rfl | rfl | rfl <;> assumption
theorem f109_eq {n : Nat} (h1 : 2 ≤ n) (h2 : n ≤ 8) : M.f109 (n : Int) = some (mat n far0) :=
  small (p := fun n => M.f109 (n : Int) = some (mat n far0)) (by refine ⟨?_, ?_, ?_, ?_, ?_, ?_, ?_⟩ <;> kernel_rfl) h1 h2
def blankR (fuel : Nat) (p0 : Int) : Option (List (List Int)) :=
  loopM (ρ := (List (List Int))) (fun s_1 : Int × (List (List Int)) =>
    (if (decide (s_1.1 < p0)) = true then (
    (loopM (ρ := (List Int)) (fun s_8 : Int × (List Int) =>
      (if (decide (s_8.1 < p0)) = true then (
      (app s_8.2 ([1099511627776] : List Int)) >>= fun z_13 =>
      some (.again ((wr (s_8.1 + 1)), z_13)))
      else (
      some (.leave s_8.2)))) fuel ((0, ([] : List Int)) : Int × (List Int))) >>= fun o_9 =>
    (fun p_26 =>
      (app s_1.2 [p_26]) >>= fun z_27 =>
      (idx z_27 s_1.1) >>= fun v_31 =>
      (idx v_31 s_1.1) >>= fun v_33 =>
      (set2 z_27 s_1.1 s_1.1 0) >>= fun z_35 =>
      some (.again ((wr (s_1.1 + 1)), z_35))) o_9)
    else (
    some (.leave s_1.2)))) fuel ((0, ([] : List (List Int))) : Int × (List (List Int)))
theorem blankR_eq {n : Nat} (h1 : 2 ≤ n) (h2 : n ≤ 8) : blankR 1000 (n : Int) = some (mat n (diag far0)) :=
  small (p := fun n => blankR 1000 (n : Int) = some (mat n (diag far0))) (by refine ⟨?_, ?_, ?_, ?_, ?_, ?_, ?_⟩ <;> kernel_rfl) h1 h2
theorem f128_eq (kn : List S_api_Offer) (hk : kn.length ≤ 24) : M.f128 kn = some kn := by
  unfold M.f128
  rw [if_pos (by omega)]
theorem take_foldl {α β : Type} {f : β → α → β} {xs : List α} {j : Nat} {x : α} {b : β} (h : xs[j]? = some x) : (xs.take (j + 1)).foldl f b = f ((xs.take j).foldl f b) x := by
  rw [List.take_add_one, h, List.foldl_append]
  rfl
theorem f113_eq {n : Nat} {kn of : List S_api_Offer} {s : Nat} (h1 : 2 ≤ n) (h2 : n ≤ 8) (hk : kn.length ≤ 24) (hl : ∀ i ∈ sel 12 s, i < of.length) (hok : ∀ o ∈ kn ++ picks of (sel 12 s), OkC n o) :
    M.f113 ((n : Int), kn, of) (s : Int) = some (mat n ((kn ++ picks of (sel 12 s)).foldl stepK far0)) := by
  have hn := sel_len 12 s
  have hp := picks_len of (sel 12 s)
  unfold M.f113
  refine bnd (f109_eq h1 h2) (bnd (f128_eq kn hk) (bnd (f118_eq s) ?_))
  have hcl := cst_length (sel 12 s)
  rw [show ((cst (sel 12 s)).length : Int) = ((sel 12 s).length : Int) from by rw [hcl]]
  obtain ⟨r, e1, e2⟩ := forS_inv (N := (sel 12 s).length) (s := kn) (f := fun i_11 s_13 => (idx (cst (sel 12 s)) i_11) >>= fun v_18 => (idx of v_18) >>= fun v_20 => (app s_13 ([v_20] : List S_api_Offer)) >>= fun z_22 => some z_22)
    (fun j l => l = kn ++ picks of ((sel 12 s).take j)) (by omega) (by simp [picks]) fun j l hj hc => by
      subst hc
      obtain ⟨i, o, hi, ho⟩ := pick_at hl hj
      have hlen := picks_len of ((sel 12 s).take j)
      rw [List.length_take] at hlen
      refine ⟨_, ?_, rfl⟩
      simp only [cst_get hi, Option.bind_eq_bind, Option.bind_some, idx_nat, ho]
      rw [app_one (by rw [List.length_append]; omega), picks_take hi ho]
      simp
  rw [List.take_length] at e2
  subst e2
  refine bnd e1 ?_
  generalize hcs : kn ++ picks of (sel 12 s) = cs at *
  have hcsl : cs.length ≤ 36 := by rw [← hcs, List.length_append]; omega
  obtain ⟨r, e3, e4⟩ := forS_inv (N := cs.length) (s := mat n far0) (f := fun i_25 s_27 => (idx cs i_25) >>= fun v_31 => (idx s_27 v_31.1) >>= fun v_33 => (idx v_33 v_31.2.1) >>= fun v_35 => (idx s_27 v_31.1) >>= fun v_37 => (idx s_27 v_31.2.1) >>= fun v_39 => (idx v_37 v_31.2.1) >>= fun v_41 => (set2 s_27 v_31.1 v_31.2.1 (imin v_35 v_31.2.2.2)) >>= fun z_43 => (idx v_39 v_31.1) >>= fun v_45 => (set2 z_43 v_31.2.1 v_31.1 (imin v_35 v_31.2.2.2)) >>= fun z_47 => some z_47)
    (fun j T => T = mat n ((cs.take j).foldl stepK far0)) (by omega) rfl fun j T hj hT => by
      subst hT
      have hx := List.getElem?_eq_getElem hj
      obtain ⟨⟨x, hx1, hx2⟩, ⟨y, hy1, hy2⟩, _⟩ := hok cs[j] (by simp)
      refine ⟨_, ?_, rfl⟩
      rw [take_foldl hx, idx_nat, hx]
      generalize (cs.take j).foldl stepK far0 = F
      generalize cs[j] = o at *
      obtain ⟨oa, ob, oc, ow⟩ := o
      have hx1 : oa = (x : Int) := hx1
      have hy1 : ob = (y : Int) := hy1
      subst hx1; subst hy1
      simp only [Option.bind_eq_bind, Option.bind_some, idx_mat hx2, idx_mat hy2, idx_row hx2, idx_row hy2, set2_mat hx2 hy2, set2_mat hy2 hx2, stepK, Int.toNat_natCast]
  rw [List.take_length] at e4
  subst e4
  exact bnd e3 rfl
theorem itr_diag (n : Nat) (F : Nat → Nat → Int) : ∀ k, itr (fun c G => updM G c c 0) k F = fun a b => if a = b ∧ a < k then 0 else F a b
  | 0 => by funext a b; simp [itr]
  | k + 1 => by
    simp only [itr]
    rw [itr_diag n F k]
    funext a b
    unfold updM
    by_cases h : a = k ∧ b = k
    · obtain ⟨rfl, rfl⟩ := h; simp
    · rw [if_neg h]
      show (if a = b ∧ a < k then 0 else F a b) = _
      by_cases h2 : a = b ∧ a < k
      · rw [if_pos h2, if_pos (by omega)]
      · rw [if_neg h2, if_neg (by omega)]
theorem f83_eq {n : Nat} {kn of : List S_api_Offer} {s : Nat} (h1 : 2 ≤ n) (h2 : n ≤ 8) (hk : kn.length ≤ 24) (hl : ∀ i ∈ sel 12 s, i < of.length) (hok : ∀ o ∈ kn ++ picks of (sel 12 s), OkC n o) :
    M.f83 ((n : Int), kn, of) (s : Int) = some (mat n (Wd n (kn ++ picks of (sel 12 s)))) := by
  unfold M.f83
  refine bnd (f113_eq h1 h2 hk hl hok) ?_
  generalize (kn ++ picks of (sel 12 s)) = cs
  refine bnd (forS_map (fun c G => updM G c c 0) (mat n) (by omega) fun j F hj => by
    simp only [Option.bind_eq_bind, Option.bind_some, idx_mat hj, idx_row hj, set2_mat hj hj]) ?_
  rw [itr_diag n]
  rw [mat_congr (G := diag (cs.foldl stepK far0)) (fun a b ha hb => by unfold diag; by_cases h : a = b <;> simp [h, hb])]
  refine bnd (forS_map (fun c F => itr (fun a F => itr (fun b F => relax c a b F) n F) n F) (mat n) (by omega) fun c F hc => ?_) rfl
  refine bnd (forS_map (fun a F => itr (fun b F => relax c a b F) n F) (mat n) (by omega) fun a F ha => ?_) rfl
  refine bnd (forS_map (fun b F => relax c a b F) (mat n) (by omega) fun b F hb => ?_) rfl
  simp only [Option.bind_eq_bind, Option.bind_some, idx_mat hc, idx_mat ha, idx_row hb, idx_row hc, set2_mat ha hb, relax]
  by_cases hq : wr (F a c + F c b) < F a b <;> simp [hq]
theorem f101_eq {n : Nat} {cs : List S_api_Offer} (h1 : 2 ≤ n) (h2 : n ≤ 8) (hl : cs.length ≤ 36) (hok : ∀ o ∈ cs, OkC n o) : M.f101 1000 (n : Int) cs = some (mat n (Wd n cs)) := by
  unfold M.f101
  refine bnd (blankR_eq h1 h2) (bnd (y := mat n (diag (cs.foldl stepK far0))) ?_ (bnd (y := mat n (Wd n cs)) ?_ rfl))
  · rw [← (steps_agree cs hok far0 (fun _ _ => rfl)).2]
    obtain ⟨r, e1, e2⟩ := loopM_inv (ρ := List (List Int)) (f := fun s_135 : Int × (List (List Int)) =>
      (if (decide (s_135.1 < (cs.length : Int))) = true then (
      (idx cs s_135.1) >>= fun v_139 =>
      (idx cs s_135.1) >>= fun v_141 =>
      (idx cs s_135.1) >>= fun v_143 =>
      (idx s_135.2 v_139.1) >>= fun v_145 =>
      (idx s_135.2 v_139.1) >>= fun v_147 =>
      (idx v_147 v_141.2.1) >>= fun v_149 =>
      (idx v_145 v_141.2.1) >>= fun v_151 =>
      (set2 s_135.2 v_139.1 v_141.2.1 (imin v_149 v_143.2.2.2)) >>= fun z_153 =>
      (idx z_153 v_141.2.1) >>= fun v_155 =>
      (idx z_153 v_141.2.1) >>= fun v_157 =>
      (idx v_157 v_139.1) >>= fun v_159 =>
      (idx v_155 v_139.1) >>= fun v_161 =>
      (set2 z_153 v_141.2.1 v_139.1 (imin v_159 v_143.2.2.2)) >>= fun z_163 =>
      some (.again ((wr (s_135.1 + 1)), z_163)))
      else (
      some (.leave s_135.2))))
      (fun m st => m ≤ cs.length ∧ st = (((cs.length - m : Nat) : Int), mat n ((cs.take (cs.length - m)).foldl stepR (diag far0)))) (fun r => r = mat n (cs.foldl stepR (diag far0))) 1000 cs.length (0, mat n (diag far0)) (by omega) ⟨Nat.le_refl _, by simp⟩ fun m st ⟨hm, hst⟩ => by
        subst hst
        cases m with
        | zero => exact ⟨_, by rw [if_neg (by simp)], by simp [OutP]⟩
        | succ m =>
          refine ⟨.again (((cs.length - m : Nat) : Int), mat n ((cs.take (cs.length - m)).foldl stepR (diag far0))), ?_, m, by omega, by omega, rfl⟩
          rw [if_pos (by simp; omega), show cs.length - m = cs.length - (m + 1) + 1 from by omega]
          generalize hj : cs.length - (m + 1) = j at *
          have hj2 : j < cs.length := by omega
          have hx := List.getElem?_eq_getElem hj2
          obtain ⟨⟨x, hx1, hx2⟩, ⟨y, hy1, hy2⟩, _⟩ := hok cs[j] (by simp)
          rw [take_foldl hx]
          simp only [idx_nat cs j, hx]
          generalize (cs.take j).foldl stepR (diag far0) = F
          generalize cs[j] = o at *
          obtain ⟨oa, ob, oc, ow⟩ := o
          have hx1 : oa = (x : Int) := hx1
          have hy1 : ob = (y : Int) := hy1
          subst hx1; subst hy1
          rw [wr_id (show -9223372036854775808 ≤ ((j : Int) + 1) by omega) (by omega)]
          simp only [Option.bind_eq_bind, Option.bind_some, idx_mat hx2, idx_mat hy2, idx_row hx2, idx_row hy2, set2_mat hx2 hy2, set2_mat hy2 hx2, stepR, Int.toNat_natCast]
          rfl
    rw [← e2]; exact e1
  · unfold Wd
    generalize diag (cs.foldl stepK far0) = F0
    refine loopM_map (N := n) (fun c F => itr (fun a F => itr (fun b F => relax c a b F) n F) n F) (fun j F => ((j : Int), mat n F)) (fun F => mat n F) (by omega) (fun c F hc => ?_) (fun F => by rw [if_neg (by simp)])
    rw [if_pos (by simpa using hc)]
    refine bnd (loopM_map (N := n) (fun a F => itr (fun b F => relax c a b F) n F) (fun j F => ((j : Int), mat n F)) (fun F => mat n F) (by omega) (fun a F ha => ?_) (fun F => by rw [if_neg (by simp)])) (by rw [wr_id (by omega) (by omega)]; rfl)
    rw [if_pos (by simpa using ha)]
    refine bnd (loopM_map (N := n) (fun b F => relax c a b F) (fun j F => ((j : Int), mat n F)) (fun F => mat n F) (by omega) (fun b F hb => ?_) (fun F => by rw [if_neg (by simp)])) (by rw [wr_id (by omega) (by omega)]; rfl)
    rw [if_pos (by simpa using hb), wr_id (show -9223372036854775808 ≤ ((b : Int) + 1) by omega) (by omega)]
    simp only [Option.bind_eq_bind, Option.bind_some, idx_mat hc, idx_mat ha, idx_row hb, idx_row hc, set2_mat ha hb]
    have : updM F a b (imin (F a b) (wr (F a c + F c b))) = relax c a b F := by
      unfold relax imin
      split
      · rfl
      · funext x y; unfold updM; split
        · rename_i h; obtain ⟨rfl, rfl⟩ := h; rfl
        · rfl
    rw [this]
    rfl
end Go.Proofs.Ytkbilbeaedocjaa
