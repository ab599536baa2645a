/-
  What is proved: for every input there is a fuel with which the model of KeeperPrices returns true.
-/
import Derived.Test.YtkbilbeaedocjaaKeepA
namespace Go.Proofs.Ytkbilbeaedocjaa
open Go Go.Proofs.Ytkbilbeaedocjaa.Wh
set_option maxRecDepth 100000

theorem sane_ok : M.f16 1000 = some true := by kernel_rfl
theorem f24_same (l : List Int) (h : l.length ≤ 4096) : M.f24 l l = some true := by
  unfold M.f24
  rw [if_neg (by simp)]
  obtain ⟨o, e1, e2⟩ := forM_inv (N := l.length) (s := ()) (f := fun i_1 (s_3 : Unit) => (idx l i_1) >>= fun v_7 => (idx l i_1) >>= fun v_9 => (if (v_7 != v_9) = true then (some (.leave false)) else (some (.again ()) : Option (Out Unit Bool))))
    (fun _ _ => True) (fun _ => False) (by omega) trivial fun j s hj _ => by
      have hx := List.getElem?_eq_getElem hj
      refine ⟨.again (), ?_, trivial⟩
      simp [idx_nat, hx]
  rw [e1]
  cases o with
  | again s => rfl
  | leave r => exact e2.elim
theorem needR_len {n : Nat} {kn of : List S_api_Offer} (hm : Ok n kn of) (a b : Nat) (w : Int) : (needR n kn of a b w).1.length ≤ 4096 := by
  unfold needR
  split
  · have := needL_len (n := n) (kn := kn) (of := of) (a := a) (b := b) (w := w) of.length
    have := hm.lo
    simp only [cst_length]
    omega
  · simp
/-- The three parts, by the code of the market, the clocks and the number. -/
theorem needed_same (m : S_api_Market) (hf : m.2.2.length ≤ 6 ∨ 12 < m.2.2.length) (a b w : Int) : ∃ r, M.f18 m a b w = some r ∧ M.f19 1000 m a b w = some r ∧ r.1.length ≤ 4096 := by
  by_cases hc : code m a b w = 0
  · obtain ⟨hv, h⟩ : validB m = true ∧ (0 ≤ a ∧ a < m.1 ∧ 0 ≤ b ∧ b < m.1 ∧ 0 ≤ w ∧ w ≤ 16777216) := by
      unfold code at hc
      split at hc
      · rename_i hv
        split at hc
        · rename_i h; exact ⟨hv, h⟩
        · cases hc
      · cases hc
    have h6 : m.2.2.length ≤ 6 := by
      rcases hf with hf | hf
      · exact hf
      · unfold validB at hv; simp at hv; omega
    obtain ⟨n, hn, hm⟩ := ok_of hv h6
    obtain ⟨c, kn, of⟩ := m
    have hn : c = (n : Int) := hn
    subst hn
    obtain ⟨a', rfl⟩ : ∃ a' : Nat, a = (a' : Int) := ⟨a.toNat, by omega⟩
    obtain ⟨b', rfl⟩ : ∃ b' : Nat, b = (b' : Int) := ⟨b.toNat, by omega⟩
    have h1 : (a' : Int) < (n : Int) := h.2.1
    have h2 : (b' : Int) < (n : Int) := h.2.2.2.1
    exact ⟨_, f18_eq hm (by omega) (by omega) hc, f19_eq hm (by omega) (by omega) h.2.2.2.2.2 hc, needR_len hm _ _ _⟩
  · refine ⟨([], code m a b w), ?_, ?_, by simp⟩
    · unfold M.f18 M.f69
      refine bnd (bnd (f76_eq _ _ _ _) (by rw [if_pos (by simpa using hc)])) ?_
      rw [if_pos (by simpa using hc)]
    · unfold M.f19
      refine bnd (f72_eq _ _ _ _) ?_
      rw [if_pos (by simpa using hc)]
theorem price_same (m : S_api_Market) (hf : m.2.2.length ≤ 6 ∨ 12 < m.2.2.length) (a b w k : Int) : ∃ r, M.f20 m a b w k = some r ∧ M.f21 1000 m a b w k = some r := by
  by_cases hc : code m a b w = 0
  · obtain ⟨hv, h⟩ : validB m = true ∧ (0 ≤ a ∧ a < m.1 ∧ 0 ≤ b ∧ b < m.1 ∧ 0 ≤ w ∧ w ≤ 16777216) := by
      unfold code at hc
      split at hc
      · rename_i hv
        split at hc
        · rename_i h; exact ⟨hv, h⟩
        · cases hc
      · cases hc
    have h6 : m.2.2.length ≤ 6 := by
      rcases hf with hf | hf
      · exact hf
      · unfold validB at hv; simp at hv; omega
    obtain ⟨n, hn, hm⟩ := ok_of hv h6
    obtain ⟨c, kn, of⟩ := m
    have hn : c = (n : Int) := hn
    subst hn
    obtain ⟨a', rfl⟩ : ∃ a' : Nat, a = (a' : Int) := ⟨a.toNat, by omega⟩
    obtain ⟨b', rfl⟩ : ∃ b' : Nat, b = (b' : Int) := ⟨b.toNat, by omega⟩
    have h1 : (a' : Int) < (n : Int) := h.2.1
    have h2 : (b' : Int) < (n : Int) := h.2.2.2.1
    exact ⟨_, f20_eq hm (by omega) (by omega) hc k, f21_eq hm (by omega) (by omega) h.2.2.2.2.2 hc k⟩
  · refine ⟨(0, false, code m a b w), ?_, ?_⟩
    · unfold M.f20
      refine bnd (f76_eq _ _ _ _) ?_
      rw [if_pos (by simpa using hc)]
    · unfold M.f21
      refine bnd (f72_eq _ _ _ _) ?_
      rw [if_pos (by simpa using hc)]
theorem least_same (m : S_api_Market) (hf : m.2.2.length ≤ 6 ∨ 12 < m.2.2.length) (a b w : Int) : ∃ r, M.f22 m a b w = some r ∧ M.f23 1000 m a b w = some r := by
  by_cases hc : code m a b w = 0
  · obtain ⟨hv, h⟩ : validB m = true ∧ (0 ≤ a ∧ a < m.1 ∧ 0 ≤ b ∧ b < m.1 ∧ 0 ≤ w ∧ w ≤ 16777216) := by
      unfold code at hc
      split at hc
      · rename_i hv
        split at hc
        · rename_i h; exact ⟨hv, h⟩
        · cases hc
      · cases hc
    have h6 : m.2.2.length ≤ 6 := by
      rcases hf with hf | hf
      · exact hf
      · unfold validB at hv; simp at hv; omega
    obtain ⟨n, hn, hm⟩ := ok_of hv h6
    obtain ⟨c, kn, of⟩ := m
    have hn : c = (n : Int) := hn
    subst hn
    obtain ⟨a', rfl⟩ : ∃ a' : Nat, a = (a' : Int) := ⟨a.toNat, by omega⟩
    obtain ⟨b', rfl⟩ : ∃ b' : Nat, b = (b' : Int) := ⟨b.toNat, by omega⟩
    have h1 : (a' : Int) < (n : Int) := h.2.1
    have h2 : (b' : Int) < (n : Int) := h.2.2.2.1
    exact ⟨_, f22_eq hm (by omega) (by omega) hc, f23_eq hm (by omega) (by omega) hc⟩
  · refine ⟨(0, false, code m a b w), ?_, ?_⟩
    · unfold M.f22
      refine bnd (f76_eq _ _ _ _) ?_
      rw [if_pos (by simpa using hc)]
    · unfold M.f23
      refine bnd (f72_eq _ _ _ _) ?_
      rw [if_pos (by simpa using hc)]
theorem law_KeeperPrices (p0 : S_api_Market) (p1 p2 p3 p4 p5 : Int) : ∃ fuel, M.f3 fuel p0 p1 p2 p3 p4 p5 = some true := by
  refine ⟨1000, ?_⟩
  unfold M.f3
  refine bnd sane_ok ?_
  simp only [Bool.not_true, Bool.false_eq_true, if_false]
  refine bnd rfl ?_
  by_cases hf : (((decide ((p0.2.2.length : Int) ≤ 6)) || ((decide (12 < (p0.2.2.length : Int))) && (decide ((p0.2.2.length : Int) ≤ 20)))) && (decide ((p0.2.1.length : Int) ≤ 30))) = true
  · rw [if_neg (by rw [hf]; simp)]
    have hf' : p0.2.2.length ≤ 6 ∨ 12 < p0.2.2.length := by simp at hf; omega
    obtain ⟨x, h1, h2, h3⟩ := needed_same p0 hf' p1 p2 p3
    obtain ⟨y, h4, h5⟩ := price_same p0 hf' p1 p2 p3 p4
    obtain ⟨z, h6, h7⟩ := least_same p0 hf' p1 p2 p5
    refine bnd h1 (bnd h2 (bnd h4 (bnd h5 (bnd h6 (bnd h7 (bnd (f24_same x.1 h3) ?_))))))
    simp
  · rw [Bool.not_eq_true] at hf
    rw [if_pos (by rw [hf]; rfl)]
end Go.Proofs.Ytkbilbeaedocjaa
