/-
  What is proved: what Path answers: a way of the least width, which CheckPath accepts.
-/
import Derived.Test.YtkbilbeaedocjaaKeepV
namespace Go.Proofs.Ytkbilbeaedocjaa
open Go Go.Proofs.Ytkbilbeaedocjaa.Wh
set_option maxRecDepth 100000

/-! ### marks -/
def vb (v : Vector Bool 8) (c : Nat) : Bool := (v.toList[c]?).getD false
theorem idxA_vb {v : Vector Bool 8} {c : Nat} (h : c < 8) : idxA v (c : Int) = some (vb v c) := by
  unfold idxA vb
  rw [idx_nat, List.getElem?_eq_getElem (by simpa using h)]
  rfl
theorem setA_vb {v : Vector Bool 8} {c : Nat} (h : c < 8) : ∃ v', setA v (c : Int) true = some v' ∧ vb v' = mark (vb v) c := by
  refine ⟨v.set c true h, ?_, ?_⟩
  · unfold setA
    rw [dif_pos ⟨by omega, by simpa using h⟩]
    rfl
  · funext y
    unfold vb mark
    rw [Vector.toList_set, List.getElem?_set]
    by_cases q : c = y
    · subst q
      rw [if_pos rfl, if_pos rfl, if_pos (by simpa using h)]
      rfl
    · rw [if_neg q, if_neg (fun e => q e.symm)]
def cntU : Nat → (Nat → Bool) → Nat
  | 0, _ => 0
  | n + 1, on => cntU n on + if on n = true then 0 else 1
theorem cntU_le (on : Nat → Bool) : ∀ n, cntU n on ≤ n
  | 0 => Nat.le_refl _
  | n + 1 => by have := cntU_le on n; unfold cntU; split <;> omega
theorem cntU_mono {on on' : Nat → Bool} (h : ∀ y, on y = true → on' y = true) : ∀ n, cntU n on' ≤ cntU n on
  | 0 => Nat.le_refl _
  | n + 1 => by
    have := cntU_mono h n
    have h2 := h n
    unfold cntU
    split
    · split <;> omega
    · split
      · rename_i q1 q2; exact absurd (h2 q2) q1
      · omega
theorem cntU_same {on on' : Nat → Bool} : ∀ n, (∀ y, y < n → on y = on' y) → cntU n on = cntU n on'
  | 0, _ => rfl
  | n + 1, h => by unfold cntU; rw [cntU_same n fun y hy => h y (by omega), h n (by omega)]
theorem cntU_mark {on : Nat → Bool} {c : Nat} (ho : on c = false) : ∀ n, c < n → cntU n (mark on c) + 1 = cntU n on
  | 0, h => absurd h (by omega)
  | n + 1, h => by
    unfold cntU
    by_cases q : c = n
    · subst q
      rw [cntU_same (on := mark on c) (on' := on) c fun y hy => by unfold mark; rw [if_neg (by omega)], ho]
      simp [mark]
    · have := cntU_mark ho n (by omega)
      have e : mark on c n = on n := by unfold mark; rw [if_neg (fun e => q e.symm)]
      rw [e]; omega
/-! ### the search -/
theorem cst_cons (c : Nat) (p : List Nat) : cst (c :: p) = (c : Int) :: cst p := rfl
theorem dfs_eq {n : Nat} (h8 : n ≤ 8) {kn of : List S_api_Offer} {S W : Nat → Nat → Int} (hS : ∀ x y, 0 ≤ S x y ∧ S x y ≤ 1099511627776) (hW : ∀ x y, x < n → y < n → 0 ≤ W x y ∧ W x y ≤ 1099511627776) {b : Nat} (hb : b < n) :
    ∀ (fuel x : Nat) (on : Vector Bool 8) (out : List Int), x < n → cntU n (vb on) < fuel → out.length + cntU n (vb on) ≤ 100 →
      ∃ r on' p, M.f115 fuel (x : Int) (b : Int) ((n : Int), kn, of) on (mat n S) (mat n W) out = some (r, on', out ++ cst p) ∧ DfsR n S W b x (vb on) r (vb on') p
  | 0, x, on, out, _, h, _ => absurd h (Nat.not_lt_zero _)
  | fuel + 1, x, on, out, hx, hf, hl => by
    unfold M.f115
    by_cases e : x = b
    · subst e
      rw [if_pos (by simp)]
      exact ⟨true, on, [], by simp [cst], fun _ h => h, fun _ => ⟨rfl, List.nodup_nil, fun y hy => (by cases hy)⟩, fun h => by cases h⟩
    · rw [if_neg (by simp; omega)]
      obtain ⟨o, ho, hP⟩ := forM_inv (N := n) (s := (on, out)) (f := fun i_1 s_3 =>
          (idxA s_3.1 i_1) >>= fun v_8 =>
          (guardO (!v_8) (idx (mat n S) (x : Int))) >>= fun v_10 =>
          (guardO (!v_8) (idx v_10 i_1)) >>= fun v_12 =>
          (guardO (!(v_8 || (decide (1099511627776 ≤ v_12)))) (idx (mat n S) (x : Int))) >>= fun v_14 =>
          (guardO (!(v_8 || (decide (1099511627776 ≤ v_12)))) (idx v_14 i_1)) >>= fun v_16 =>
          (guardO (!(v_8 || (decide (1099511627776 ≤ v_12)))) (idx (mat n W) i_1)) >>= fun v_18 =>
          (guardO (!(v_8 || (decide (1099511627776 ≤ v_12)))) (idx v_18 (b : Int))) >>= fun v_20 =>
          (guardO (!(v_8 || (decide (1099511627776 ≤ v_12)))) (idx (mat n W) (x : Int))) >>= fun v_22 =>
          (guardO (!(v_8 || (decide (1099511627776 ≤ v_12)))) (idx v_22 (b : Int))) >>= fun v_24 =>
          (if ((v_8 || (decide (1099511627776 ≤ v_12))) || ((wr (v_16 + v_20)) != v_24)) = true then (
          some (.again (s_3.1, s_3.2)))
          else (
          (app s_3.2 ([i_1] : List Int)) >>= fun z_26 =>
          (idxA s_3.1 i_1) >>= fun v_29 =>
          (setA s_3.1 i_1 true) >>= fun z_31 =>
          (M.f115 fuel i_1 (b : Int) ((n : Int), kn, of) z_31 (mat n S) (mat n W) z_26) >>= fun z_33 =>
          (if z_33.1 = true then (
          some (.leave (true, z_33.2.1, z_33.2.2)))
          else (
          (cut z_33.2.2 (wr ((z_33.2.2.length : Int) - 1))) >>= fun z_36 =>
          some (.again (z_33.2.1, z_36)))))))
        (fun j st => ∃ on', st = (on', out) ∧ DfsL n S W b x j (vb on) (vb on'))
        (fun ρ : Bool × Vector Bool 8 × List Int => ∃ on2 p, ρ = (true, on2, out ++ cst p) ∧ DfsR n S W b x (vb on) true (vb on2) p) (by omega) ⟨on, rfl, DfsL.nil e⟩ (fun j st hj hI => by
          obtain ⟨on', rfl, hL⟩ := hI
          have hbW := hW x b hx hb
          have hjW := hW j b hj hb
          have hjS := hS x j
          have hcm := cntU_mono hL.up n
          simp only [Option.bind_eq_bind, idxA_vb (show j < 8 by omega), Option.bind_some, idx_mat hx, idx_mat hj, idx_row hj, idx_row hb]
          by_cases q1 : vb on' j = true
          · rw [q1]
            simp only [Bool.not_true, Bool.true_or, guardO, Option.bind_some, idx_row hj, idx_row hb]
            rw [if_pos trivial]
            exact ⟨_, rfl, on', rfl, hL.skip (.inl q1)⟩
          · have q1' : vb on' j = false := by simpa using q1
            rw [q1']
            simp only [Bool.not_false, Bool.false_or, guardO, Option.bind_some, idx_row hj, idx_row hb]
            by_cases q2 : 1099511627776 ≤ S x j
            · rw [decide_eq_true q2]
              simp only [Bool.not_true, Bool.true_or, guardO, Option.bind_some, idx_row hj, idx_row hb]
              rw [if_pos trivial]
              exact ⟨_, rfl, on', rfl, hL.skip (.inr fun ht => by have := ht.1; omega)⟩
            · rw [decide_eq_false q2]
              simp only [Bool.not_false, Bool.false_or, guardO, Option.bind_some, idx_row hj, idx_row hb]
              rw [wr_id (by omega) (by omega)]
              by_cases q3 : S x j + W j b = W x b
              · rw [if_neg (by simpa using q3)]
                have ht : Tight S W b x j := ⟨by omega, q3⟩
                obtain ⟨on1, hs1, hs2⟩ := setA_vb (v := on') (show j < 8 by omega)
                have hc := cntU_mark q1' n hj
                rw [app_one (by omega), hs1]
                simp only [Option.bind_some]
                obtain ⟨r, on2, p, k1, k2⟩ := dfs_eq h8 (kn := kn) (of := of) hS hW hb fuel j on1 (out ++ [(j : Int)]) hj (by rw [hs2]; omega) (by rw [hs2, List.length_append]; simp; omega)
                rw [k1]
                simp only [Option.bind_some]
                rw [hs2] at k2
                cases r with
                | true =>
                  rw [if_pos rfl]
                  exact ⟨_, rfl, on2, j :: p, by rw [cst_cons]; simp, DfsL.found hj hL q1' ht k2⟩
                | false =>
                  rw [if_neg (by simp)]
                  obtain ⟨rfl, _⟩ := k2.no rfl
                  have e1 : cst [] = [] := rfl
                  rw [e1, List.append_nil, List.length_append]
                  have e2 : cut (out ++ [(j : Int)]) (wr (((out.length + [(j : Int)].length : Nat) : Int) - 1)) = some out := by
                    simp only [List.length_cons, List.length_nil]
                    rw [wr_id (by omega) (by omega), show (((out.length + (0 + 1) : Nat) : Int) - 1) = (out.length : Int) from by omega]
                    unfold cut
                    rw [if_pos (by simp), Int.toNat_natCast, List.take_left]
                  rw [e2]
                  exact ⟨_, rfl, on2, rfl, DfsL.deep hj hL k2⟩
              · rw [if_pos (by simpa using q3)]
                exact ⟨_, rfl, on', rfl, hL.skip (.inr fun ht => q3 ht.2)⟩)
      cases o with
      | again st =>
        obtain ⟨on', rfl, hL⟩ := hP
        exact ⟨false, on', [], bnd ho (by rw [show cst [] = [] from rfl, List.append_nil]; rfl), hL.done⟩
      | leave ρ =>
        obtain ⟨on2, p, rfl, hd⟩ := hP
        exact ⟨true, on2, p, bnd ho rfl, hd⟩
/-! ### the way that is found is accepted -/
theorem psum_take {S : Nat → Nat → Int} : ∀ (p : List Nat) (a j x c : Nat), (a :: p)[j]? = some x → p[j]? = some c → psum S a (p.take (j + 1)) = psum S a (p.take j) + S x c
  | [], a, j, x, c, _, h => by cases h
  | d :: p, a, 0, x, c, h1, h2 => by simp at h1 h2; subst h1; subst h2; simp [psum]
  | d :: p, a, j + 1, x, c, h1, h2 => by
    simp only [List.getElem?_cons_succ] at h1 h2
    have := psum_take (S := S) p d j x c h1 h2
    simp only [List.take_succ_cons, psum]
    omega
theorem pAt_cst {l : List Nat} {j x : Nat} (h : l[j]? = some x) : pAt (cst l) j = (x : Int) := by
  unfold pAt cst
  rw [List.getElem?_map, h]; rfl
theorem path_ok {n : Nat} {S W : Nat → Nat → Int} {a b : Nat} (hn : n ≤ 8) (h0 : W b b = 0) (ha : a < n) {p : List Nat} (hp : TPath n S W b a p) (hl : p.length < n) (hlt : ∀ y ∈ p, y < n) : cpR n S a b (W a b) (cst (a :: p)) = 0 := by
  have hall : ∀ y ∈ a :: p, y < n := fun y hy => by
    rcases List.mem_cons.1 hy with e | e
    · subst e; exact ha
    · exact hlt y e
  have hlen : (cst (a :: p)).length = p.length + 1 := by rw [cst_length]; rfl
  have hget : ∀ j, j < p.length + 1 → ∃ x, (a :: p)[j]? = some x ∧ x < n := fun j hj => by
    have h : j < (a :: p).length := by simpa using hj
    exact ⟨(a :: p)[j], List.getElem?_eq_getElem h, hall _ (List.getElem_mem h)⟩
  have hst : ∀ j x y, (a :: p)[j]? = some x → p[j]? = some y → stI n S (pAt (cst (a :: p)) j) (pAt (cst (a :: p)) (j + 1)) = S x y := fun j x y h1 h2 => by
    have h3 : (a :: p)[j + 1]? = some y := by rw [List.getElem?_cons_succ]; exact h2
    rw [pAt_cst h1, pAt_cst h3]
    have q1 := hall x (List.mem_of_getElem? h1)
    have q2 := hall y (List.mem_of_getElem? h3)
    unfold stI
    rw [if_pos (by omega), Int.toNat_natCast, Int.toNat_natCast]
  unfold cpR
  refine if_pos ⟨?_, ?_, ?_⟩
  · unfold ends
    rw [hlen]
    have e1 : pAt (cst (a :: p)) 0 = (a : Int) := pAt_cst rfl
    have e2 : pAt (cst (a :: p)) p.length = (b : Int) := by
      have := hp.last
      refine pAt_cst ?_
      rw [List.getLast_eq_getElem] at this
      rw [← this]
      have h : p.length < (a :: p).length := by simp
      rw [List.getElem?_eq_getElem h]
      congr 1
    rw [Nat.add_sub_cancel, e1, e2]
    simp
    omega
  · intro i h1 h2
    rw [hlen] at h2
    obtain ⟨j, rfl⟩ : ∃ j, i = j + 1 := ⟨i - 1, by omega⟩
    rw [Nat.add_sub_cancel]
    obtain ⟨x, hx, _⟩ := hget j (by omega)
    have hj : j < p.length := by omega
    have hy := List.getElem?_eq_getElem hj
    rw [hst j x _ hx hy]
    exact (hp.far j x hx _ hy).2
  · rw [hlen]
    have key : ∀ j, j ≤ p.length → sumTo (stI n S) (cst (a :: p)) (j + 1) = psum S a (p.take j) := by
      intro j
      induction j with
      | zero => intro _; simp [sumTo, psum]
      | succ j ih =>
        intro hj
        obtain ⟨x, hx, _⟩ := hget j (by omega)
        have hy := List.getElem?_eq_getElem (show j < p.length by omega)
        have e : sumTo (stI n S) (cst (a :: p)) (j + 1 + 1) = sumTo (stI n S) (cst (a :: p)) (j + 1) + stI n S (pAt (cst (a :: p)) j) (pAt (cst (a :: p)) (j + 1)) := by
          show (if j + 1 = 0 then 0 else _) = _
          rw [if_neg (by omega)]; rfl
        rw [e, ih (by omega), hst j x _ hx hy, psum_take p a j x _ hx hy]
    rw [key p.length (Nat.le_refl _), List.take_length, hp.sum h0]
    exact Int.le_refl _
section
variable {n : Nat} {kn of : List S_api_Offer} (hm : Ok n kn of)
include hm
theorem Ok.f66 {s a b : Nat} (hs : s < 2 ^ of.length) (ha : a < n) (hb : b < n) (hc : codeQ ((n : Int), kn, of) (cst (sel of.length s)) [(a : Int), (b : Int)] [] = 0) :
    (1099511627776 ≤ WdS n kn of s a b → M.f66 1000 ((n : Int), kn, of) (cst (sel of.length s)) a b = some ([], 4)) ∧
    (WdS n kn of s a b < 1099511627776 → ∃ p, M.f66 1000 ((n : Int), kn, of) (cst (sel of.length s)) a b = some (p, 0) ∧ p.length ≤ 8 ∧ cpR n (Stp (csS kn of s)) a b (WdS n kn of s a b) p = 0) := by
  have h6 := hm.lo
  have h7 := sel_len of.length s
  have h8 := hm.n8
  have hcl := hm.cl s
  have start : M.f66 1000 ((n : Int), kn, of) (cst (sel of.length s)) a b = (if (decide (1099511627776 ≤ WdS n kn of s a b)) = true then some (([] : List Int), 4)
      else (idxA (#v[false, false, false, false, false, false, false, false] : Vector Bool 8) (a : Int)) >>= fun v_20 =>
        (setA (#v[false, false, false, false, false, false, false, false] : Vector Bool 8) (a : Int) true) >>= fun z_22 =>
        (M.f115 1000 (a : Int) (b : Int) ((n : Int), kn, of) z_22 (mat n (Stp (csS kn of s))) (mat n (WdS n kn of s)) ([(a : Int)] : List Int)) >>= fun z_25 =>
        some (z_25.2.2, 0)) := by
    unfold M.f66
    rw [f76_eqQ _ _ _ _ (by rw [cst_length]; omega) (by simp) (by simp)]
    simp only [Option.bind_eq_bind, Option.bind_some]
    rw [hc, if_neg (by simp), hm.set hs]
    simp only [Option.bind_some]
    rw [hm.f83 hs]
    simp only [Option.bind_some]
    rw [hm.f113 hs]
    simp only [Option.bind_some, idx_mat ha, idx_row hb]
  rw [start]
  refine ⟨fun h => by rw [if_pos (by simpa using h)], fun h => ?_⟩
  rw [if_neg (by simpa using h)]
  obtain ⟨z, hz1, hz2⟩ := setA_vb (v := (#v[false, false, false, false, false, false, false, false] : Vector Bool 8)) (show a < 8 by omega)
  have hv : vb (#v[false, false, false, false, false, false, false, false] : Vector Bool 8) = fun _ => false := by
    funext y
    unfold vb
    have : ∀ y, y < 8 ∨ 8 ≤ y := fun y => by omega
    rcases this y with q | q
    · have : y = 0 ∨ y = 1 ∨ y = 2 ∨ y = 3 ∨ y = 4 ∨ y = 5 ∨ y = 6 ∨ y = 7 := by omega
      rcases this with rfl | rfl | rfl | rfl | rfl | rfl | rfl | rfl <;> rfl
    · rw [List.getElem?_eq_none (by simpa using q)]; rfl
  rw [hv] at hz2
  have hcu := cntU_le (vb z) n
  obtain ⟨r, on', p, k1, k2⟩ := dfs_eq hm.n8 (kn := kn) (of := of) (S := Stp (csS kn of s)) (W := WdS n kn of s) (hm.st_range s) (fun x y hx hy => ⟨hcl.nonneg x y hx hy, hcl.far x y hx hy⟩) hb 1000 a z [(a : Int)] ha (by omega) (by simp; omega)
  rw [hz2] at k2
  obtain ⟨rfl, q1, q2, q3⟩ := dfs_finds hcl ha hb (show WdS n kn of s a b < Wh.far from h) k2
  refine ⟨cst (a :: p), ?_, by rw [cst_length]; simp; omega, path_ok hm.n8 (hcl.zero b hb) ha q1 q2 q3⟩
  rw [idxA_vb (by omega), hz1]
  simp only [Option.bind_eq_bind, Option.bind_some]
  rw [k1]
  rfl
end
theorem f66_err {m : S_api_Market} {l : List Int} {a b : Int} (hl : l.length ≤ 4096) (hc : codeQ m l [a, b] [] ≠ 0) : M.f66 1000 m l a b = some ([], codeQ m l [a, b] []) := by
  unfold M.f66
  refine bnd (f76_eqQ _ _ _ _ hl (by simp) (by simp)) ?_
  rw [if_pos (by simpa using hc)]
end Go.Proofs.Ytkbilbeaedocjaa
