/-
  What is proved: on valid markets the widths of keeper and of the specification are the same table.
-/
import Derived.Test.YtkbilbeaedocjaaKeepB
namespace Go.Proofs.Ytkbilbeaedocjaa
open Go Go.Proofs.Ytkbilbeaedocjaa.Wh

/-! ### the comparisons behind buying -/
def picks (of : List S_api_Offer) (l : List Nat) : List S_api_Offer := l.filterMap fun i => of[i]?
theorem picks_len (of : List S_api_Offer) (l : List Nat) : (picks of l).length ≤ l.length := List.length_filterMap_le _ _
theorem picks_take {of : List S_api_Offer} {l : List Nat} {j i : Nat} {o : S_api_Offer} (h : l[j]? = some i) (ho : of[i]? = some o) : picks of (l.take (j + 1)) = picks of (l.take j) ++ [o] := by
  unfold picks
  rw [List.take_add_one, List.filterMap_append, h]
  simp [ho]
theorem cst_get {l : List Nat} {j i : Nat} (h : l[j]? = some i) : idx (cst l) (j : Int) = some (i : Int) := by
  rw [idx_nat]
  simp [cst, h]
theorem cst_length (l : List Nat) : (cst l).length = l.length := by simp [cst]
theorem app_one {α : Type} {xs : List α} {x : α} (h : xs.length ≤ 4096) : app xs [x] = some (xs ++ [x]) := by
  unfold app
  rw [if_pos (by simp; omega)]
theorem pick_at {of : List S_api_Offer} {l : List Nat} (hl : ∀ i ∈ l, i < of.length) {j : Nat} (hj : j < l.length) : ∃ i o, l[j]? = some i ∧ of[i]? = some o := by
  have := hl l[j] (by simp)
  exact ⟨l[j], of[l[j]], List.getElem?_eq_getElem hj, List.getElem?_eq_getElem this⟩
theorem f102_eq (n : Int) (kn of : List S_api_Offer) (l : List Nat) (hl : ∀ i ∈ l, i < of.length) (hk : kn.length ≤ 24) (hn : l.length ≤ 12) : M.f102 1000 (n, kn, of) (cst l) = some (kn ++ picks of l) := by
  unfold M.f102
  have h0 : app ([] : List S_api_Offer) kn = some kn := by unfold app; rw [if_pos (by simp; omega)]; rfl
  refine bnd h0 (bnd (y := kn ++ picks of l) ?_ rfl)
  obtain ⟨r, h1, h2⟩ := loopM_inv (ρ := List S_api_Offer) (f := fun s_4 : Int × (List S_api_Offer) => (if (decide (s_4.1 < ((cst l).length : Int))) = true then ((idx (cst l) s_4.1) >>= fun v_9 => (idx of v_9) >>= fun v_11 => (app s_4.2 ([v_11] : List S_api_Offer)) >>= fun z_13 => some (.again ((wr (s_4.1 + 1)), z_13))) else (some (.leave s_4.2))))
    (fun m st => m ≤ l.length ∧ st = (((l.length - m : Nat) : Int), kn ++ picks of (l.take (l.length - m)))) (fun r => r = kn ++ picks of l) 1000 l.length (0, kn) (by omega) ⟨Nat.le_refl _, by simp [picks]⟩ fun m st ⟨hm, hst⟩ => by
      subst hst
      cases m with
      | zero => exact ⟨_, by rw [if_neg (by simp [cst_length])], by simp [OutP]⟩
      | succ m =>
        refine ⟨.again (((l.length - m : Nat) : Int), kn ++ picks of (l.take (l.length - m))), ?_, m, by omega, by omega, rfl⟩
        rw [if_pos (by simp [cst_length]; omega), show l.length - m = l.length - (m + 1) + 1 from by omega]
        generalize hj : l.length - (m + 1) = j at *
        have hj2 : j < l.length := by omega
        obtain ⟨i, o, hi, ho⟩ := pick_at hl hj2
        have hlen := picks_len of (l.take j)
        rw [List.length_take] at hlen
        simp only [cst_get hi, Option.bind_eq_bind, Option.bind_some, idx_nat, ho]
        rw [app_one (by rw [List.length_append]; omega), wr_id (by omega) (by omega), picks_take hi ho]
        simp
  rw [← h2]; exact h1
/-! ### what offers cost -/
def costF (of : List S_api_Offer) (l : List Nat) : Int := (picks of l).foldl (fun c o => wr (c + o.2.2.1)) 0
theorem costF_take {of : List S_api_Offer} {l : List Nat} {j i : Nat} {o : S_api_Offer} (h : l[j]? = some i) (ho : of[i]? = some o) : costF of (l.take (j + 1)) = wr (costF of (l.take j) + o.2.2.1) := by
  unfold costF
  rw [picks_take h ho, List.foldl_append]
  rfl
theorem f81_eq (n : Int) (kn of : List S_api_Offer) (l : List Nat) (hl : ∀ i ∈ l, i < of.length) (hn : l.length ≤ 12) : M.f81 1000 (n, kn, of) (cst l) = some (costF of l) := by
  unfold M.f81
  refine bnd (y := costF of l) ?_ rfl
  obtain ⟨r, h1, h2⟩ := loopM_inv (ρ := Int) (f := fun s_1 : Int × Int => (if (decide (s_1.2 < ((cst l).length : Int))) = true then ((idx (cst l) s_1.2) >>= fun v_5 => (idx of v_5) >>= fun v_7 => some (.again ((wr (s_1.1 + v_7.2.2.1)), (wr (s_1.2 + 1))))) else (some (.leave s_1.1))))
    (fun m st => m ≤ l.length ∧ st = (costF of (l.take (l.length - m)), ((l.length - m : Nat) : Int))) (fun r => r = costF of l) 1000 l.length (0, 0) (by omega) ⟨Nat.le_refl _, by simp [costF, picks]⟩ fun m st ⟨hm, hst⟩ => by
      subst hst
      cases m with
      | zero => exact ⟨_, by rw [if_neg (by simp [cst_length])], by simp [OutP]⟩
      | succ m =>
        refine ⟨.again (costF of (l.take (l.length - m)), ((l.length - m : Nat) : Int)), ?_, m, by omega, by omega, rfl⟩
        rw [if_pos (by simp [cst_length]; omega), show l.length - m = l.length - (m + 1) + 1 from by omega]
        generalize hj : l.length - (m + 1) = j at *
        have hj2 : j < l.length := by omega
        obtain ⟨i, o, hi, ho⟩ := pick_at hl hj2
        simp only [cst_get hi, Option.bind_eq_bind, Option.bind_some, idx_nat, ho]
        rw [wr_id (show -9223372036854775808 ≤ ((j : Int) + 1) by omega) (by omega), costF_take hi ho]
        simp
  rw [← h2]; exact h1
theorem f82_eq (n : Int) (kn of : List S_api_Offer) (s : Nat) (hl : ∀ i ∈ sel 12 s, i < of.length) : M.f82 (s : Int) (n, kn, of) = some (costF of (sel 12 s)) := by
  unfold M.f82
  refine bnd (f118_eq s) ?_
  have hn := sel_len 12 s
  have hcl := cst_length (sel 12 s)
  rw [show ((cst (sel 12 s)).length : Int) = ((sel 12 s).length : Int) from by rw [hcl]]
  obtain ⟨r, h1, h2⟩ := forS_inv (N := (sel 12 s).length) (s := (0 : Int)) (f := fun i_3 s_5 => (idx (cst (sel 12 s)) i_3) >>= fun v_9 => (idx of v_9) >>= fun v_11 => some (wr (s_5 + v_11.2.2.1)))
    (fun j c => c = costF of ((sel 12 s).take j)) (by omega) rfl fun j c hj hc => by
      subst hc
      obtain ⟨i, o, hi, ho⟩ := pick_at hl hj
      exact ⟨_, by simp only [cst_get hi, Option.bind_eq_bind, Option.bind_some, idx_nat, ho], (costF_take hi ho).symm⟩
  rw [List.take_length] at h2
  subst h2
  exact bnd h1 rfl
/-! ### tables -/
structure OkC (n : Nat) (o : S_api_Offer) : Prop where
  a : ∃ k : Nat, o.1 = (k : Int) ∧ k < n
  b : ∃ k : Nat, o.2.1 = (k : Int) ∧ k < n
  ne : o.1 ≠ o.2.1
theorem okC_of {n : Nat} {c : Int} {o : S_api_Offer} (h : okB (n : Int) c o = true) : OkC n o := by
  unfold okB at h
  simp at h
  obtain ⟨⟨⟨⟨⟨⟨⟨⟨h1, h2⟩, h3⟩, h4⟩, h5⟩, h6⟩, h7⟩, h8⟩, h9⟩ := h
  exact ⟨⟨o.1.toNat, by omega, by omega⟩, ⟨o.2.1.toNat, by omega, by omega⟩, h5⟩
def stepK (F : Nat → Nat → Int) (o : S_api_Offer) : Nat → Nat → Int :=
  updM (updM F o.1.toNat o.2.1.toNat (imin (F o.1.toNat o.2.1.toNat) o.2.2.2)) o.2.1.toNat o.1.toNat (imin (F o.1.toNat o.2.1.toNat) o.2.2.2)
def stepR (F : Nat → Nat → Int) (o : S_api_Offer) : Nat → Nat → Int :=
  updM (updM F o.1.toNat o.2.1.toNat (imin (F o.1.toNat o.2.1.toNat) o.2.2.2)) o.2.1.toNat o.1.toNat (imin (updM F o.1.toNat o.2.1.toNat (imin (F o.1.toNat o.2.1.toNat) o.2.2.2) o.2.1.toNat o.1.toNat) o.2.2.2)
def diag (F : Nat → Nat → Int) : Nat → Nat → Int := fun a b => if a = b then 0 else F a b
def far0 : Nat → Nat → Int := fun _ _ => 1099511627776
/-- The cheaper steps agree: the table stays the same both ways. -/
theorem steps_agree {n : Nat} : ∀ (cs : List S_api_Offer), (∀ o ∈ cs, OkC n o) → ∀ (F : Nat → Nat → Int), (∀ a b, F a b = F b a) → (∀ a b, cs.foldl stepK F a b = cs.foldl stepK F b a) ∧ cs.foldl stepR (diag F) = diag (cs.foldl stepK F)
  | [], _, F, hF => ⟨hF, rfl⟩
  | o :: cs, h, F, hF => by
    have ho := h o (by simp)
    obtain ⟨⟨x, hx, _⟩, ⟨y, hy, _⟩, hne⟩ := ho
    have hxy : x ≠ y := fun e => hne (by rw [hx, hy, e])
    have ex : o.1.toNat = x := by omega
    have ey : o.2.1.toNat = y := by omega
    have hs : ∀ a b, stepK F o a b = stepK F o b a := by
      intro a b
      unfold stepK updM
      rw [ex, ey]
      have := hF a b
      by_cases h1 : a = y ∧ b = x
      · obtain ⟨rfl, rfl⟩ := h1; simp [hxy, Ne.symm hxy]
      · by_cases h2 : a = x ∧ b = y
        · obtain ⟨rfl, rfl⟩ := h2; simp [hxy]
        · rw [if_neg h1, if_neg h2, if_neg (fun e => h2 ⟨e.2, e.1⟩), if_neg (fun e => h1 ⟨e.2, e.1⟩)]
          exact this
    have hd : stepR (diag F) o = diag (stepK F o) := by
      funext a b
      unfold stepR stepK diag updM
      rw [ex, ey]
      have e1 : F y x = F x y := hF y x
      by_cases h1 : a = y ∧ b = x
      · obtain ⟨rfl, rfl⟩ := h1; simp [hxy, Ne.symm hxy, e1]
      · by_cases h2 : a = x ∧ b = y
        · obtain ⟨rfl, rfl⟩ := h2; simp [hxy]
        · simp [h1, h2]
    simp only [List.foldl_cons]
    rw [hd]
    exact steps_agree cs (fun o ho => h o (by simp [ho])) _ hs
def relax (c a b : Nat) (F : Nat → Nat → Int) : Nat → Nat → Int := if wr (F a c + F c b) < F a b then updM F a b (wr (F a c + F c b)) else F
def fw (n : Nat) (F : Nat → Nat → Int) : Nat → Nat → Int := itr (fun c F => itr (fun a F => itr (fun b F => relax c a b F) n F) n F) n F
/-- The widths behind buying. -/
def Wd (n : Nat) (cs : List S_api_Offer) : Nat → Nat → Int := fw n (diag (cs.foldl stepK far0))
end Go.Proofs.Ytkbilbeaedocjaa
