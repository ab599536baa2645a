/-
  What is proved: the tables that spans lay, both ways round, and what they tell of widths.
-/
import Derived.Test.YtkbilbeaedocjaaKeepO
namespace Go.Proofs.Ytkbilbeaedocjaa
open Go Go.Proofs.Ytkbilbeaedocjaa.Wh
abbrev ES := S_api_Offer × S_api_Span
structure OkE (n : Nat) (e : ES) : Prop where
  a : ∃ k : Nat, e.1.1 = (k : Int) ∧ k < n
  b : ∃ k : Nat, e.1.2.1 = (k : Int) ∧ k < n
  ne : e.1.1 ≠ e.1.2.1
  w0 : 0 ≤ e.1.2.2.2
  w1 : e.1.2.2.2 ≤ 1048576
  l0 : -1073741824 ≤ e.2.1
  l1 : e.2.1 ≤ 1073741824
  hi : e.2.2 = e.2.1 + e.1.2.2.2
def eA (e : ES) : Nat := e.1.1.toNat
def eB (e : ES) : Nat := e.1.2.1.toNat
def spR (F : Tb) (e : ES) : Tb :=
  updM (updM F (eA e) (eB e) (imin (F (eA e) (eB e)) e.2.2)) (eB e) (eA e) (imin (updM F (eA e) (eB e) (imin (F (eA e) (eB e)) e.2.2) (eB e) (eA e)) (wr (0 - e.2.1)))
def spT (F : Tb) (e : ES) : Tb :=
  updM (updM F (eB e) (eA e) (imin (F (eB e) (eA e)) e.2.2)) (eA e) (eB e) (imin (F (eA e) (eB e)) (wr (0 - e.2.1)))
section
variable {n : Nat} {e : ES} (h : OkE n e)
include h
theorem OkE.ab : eA e ≠ eB e ∧ eA e < n ∧ eB e < n := by
  obtain ⟨x, h1, h2⟩ := h.a
  obtain ⟨y, h3, h4⟩ := h.b
  have := h.ne
  unfold eA eB
  omega
theorem OkE.neg : wr (0 - e.2.1) = -e.2.1 := by
  have := h.l0; have := h.l1
  rw [wr_id (by omega) (by omega)]; omega
theorem spR_val (F : Tb) (x y : Nat) : spR F e x y = if x = eA e ∧ y = eB e then imin (F x y) e.2.2 else if x = eB e ∧ y = eA e then imin (F x y) (-e.2.1) else F x y := by
  obtain ⟨h1, _, _⟩ := h.ab
  unfold spR updM
  rw [h.neg]
  by_cases q : x = eA e ∧ y = eB e
  · obtain ⟨rfl, rfl⟩ := q
    rw [if_neg (by omega), if_pos ⟨rfl, rfl⟩, if_pos ⟨rfl, rfl⟩]
  · rw [if_neg q]
    by_cases q2 : x = eB e ∧ y = eA e
    · obtain ⟨rfl, rfl⟩ := q2
      have h1' := Ne.symm h1
      simp [h1, h1']
    · rw [if_neg q2, if_neg q2, if_neg q]
theorem spT_val (F : Tb) (x y : Nat) : spT F e x y = if y = eA e ∧ x = eB e then imin (F x y) e.2.2 else if y = eB e ∧ x = eA e then imin (F x y) (-e.2.1) else F x y := by
  obtain ⟨h1, _, _⟩ := h.ab
  unfold spT updM
  rw [h.neg]
  by_cases q : y = eA e ∧ x = eB e
  · obtain ⟨rfl, rfl⟩ := q
    rw [if_neg (by omega), if_pos ⟨rfl, rfl⟩, if_pos ⟨rfl, rfl⟩]
  · rw [if_neg q]
    by_cases q2 : y = eB e ∧ x = eA e
    · obtain ⟨rfl, rfl⟩ := q2
      rw [if_pos ⟨rfl, rfl⟩, if_pos ⟨rfl, rfl⟩]
    · rw [if_neg q2, if_neg (by omega), if_neg (by omega)]
theorem spT_R {R T : Tb} (hT : ∀ x y, T x y = R y x) (x y : Nat) : spT T e x y = spR R e y x := by
  rw [spT_val h, spR_val h, hT x y]
theorem spR_le (F : Tb) (x y : Nat) : spR F e x y ≤ F x y := by
  rw [spR_val h, imin_eq, imin_eq]
  split
  · split <;> omega
  · split
    · split <;> omega
    · omega
theorem spR_fine {F : Tb} (hF : Fine n 1074790400 F) : Fine n 1074790400 (spR F e) := by
  obtain ⟨h1, h2, h3⟩ := h.ab
  have := h.l0; have := h.l1; have := h.w0; have := h.w1; have := h.hi
  refine ⟨fun a ha => ?_, fun a b ha hb => ?_, fun a b ha hb => ?_, fun a b ha hb => ?_⟩
  · rw [spR_val h, if_neg (by omega), if_neg (by omega)]; exact hF.zero a ha
  · rw [spR_val h, imin_eq, imin_eq]
    have := hF.up a b ha hb
    split
    · split <;> omega
    · split
      · split <;> omega
      · omega
  · rw [spR_val h, imin_eq, imin_eq]
    have := hF.lo a b ha hb
    split
    · split <;> omega
    · split
      · split <;> omega
      · omega
  · intro hlt
    by_cases q : a = eA e ∧ b = eB e
    · rw [spR_val h, if_neg (by omega), if_pos (by omega), imin_eq]; split <;> omega
    · by_cases q2 : a = eB e ∧ b = eA e
      · rw [spR_val h, if_pos (by omega), imin_eq]; split <;> omega
      · rw [spR_val h, if_neg q, if_neg q2] at hlt
        rw [spR_val h, if_neg (by omega), if_neg (by omega)]
        exact hF.sym a b ha hb hlt
theorem spR_feas {F : Tb} {q : Nat → Int} (hF : Feas n q F) (h1 : q (eB e) - q (eA e) ≤ e.2.2) (h2 : e.2.1 ≤ q (eB e) - q (eA e)) : Feas n q (spR F e) := by
  intro x y hx hy
  have := hF x y hx hy
  rw [spR_val h, imin_eq, imin_eq]
  split
  · rename_i k; obtain ⟨rfl, rfl⟩ := k; split <;> omega
  · split
    · rename_i k; obtain ⟨rfl, rfl⟩ := k; split <;> omega
    · omega
end
def tabR (l : List ES) : Tb := l.foldl spR (diag far0)
def tabT (l : List ES) : Tb := l.foldl spT (diag far0)
theorem diag_far (x y : Nat) : diag far0 x y = if x = y then 0 else 1099511627776 := rfl
theorem fold_ind {l : List ES} {n : Nat} (hl : ∀ e ∈ l, OkE n e) {I : Tb → Prop} (h1 : ∀ e ∈ l, ∀ F, OkE n e → I F → I (spR F e)) : ∀ {F : Tb}, I F → I (l.foldl spR F) := by
  induction l with
  | nil => intro F h; exact h
  | cons e l ih =>
    intro F h
    exact ih (fun e he => hl e (by simp [he])) (fun e he => h1 e (by simp [he])) (h1 e (by simp) F (hl e (by simp)) h)
theorem tab_tr {l : List ES} {n : Nat} (hl : ∀ e ∈ l, OkE n e) : ∀ {R T : Tb}, (∀ x y, T x y = R y x) → ∀ x y, l.foldl spT T x y = l.foldl spR R y x := by
  induction l with
  | nil => intro R T h; exact h
  | cons e l ih => intro R T h; exact ih (fun e he => hl e (by simp [he])) (spT_R (hl e (by simp)) h)
theorem tabT_R {l : List ES} {n : Nat} (hl : ∀ e ∈ l, OkE n e) (x y : Nat) : tabT l x y = tabR l y x :=
  tab_tr hl (fun x y => by rw [diag_far, diag_far]; by_cases e : x = y <;> simp [e, eq_comm]) x y
theorem tabR_fine {l : List ES} {n : Nat} (hl : ∀ e ∈ l, OkE n e) : Fine n 1074790400 (tabR l) :=
  fold_ind hl (I := Fine n 1074790400) (fun e _ F he hF => spR_fine he hF) ⟨fun a _ => by rw [diag_far, if_pos rfl], fun a b _ _ => by rw [diag_far]; split <;> omega, fun a b _ _ => by rw [diag_far]; split <;> omega, fun a b _ _ => by rw [diag_far, diag_far]; intro h; split at h <;> split <;> omega⟩
theorem tabR_feas {l : List ES} {n : Nat} (hl : ∀ e ∈ l, OkE n e) {q : Nat → Int} (h0 : ∀ x y, x < n → y < n → q y - q x ≤ 1099511627776) (h1 : ∀ e ∈ l, q (eB e) - q (eA e) ≤ e.2.2 ∧ e.2.1 ≤ q (eB e) - q (eA e)) : Feas n q (tabR l) :=
  fold_ind hl (I := Feas n q) (fun e he F hk hF => spR_feas hk hF (h1 e he).1 (h1 e he).2) fun x y hx hy => by
    rw [diag_far]
    have := h0 x y hx hy
    split
    · rename_i e; subst e; omega
    · omega
theorem fold_le {l : List ES} {n : Nat} (hl : ∀ e ∈ l, OkE n e) (F : Tb) (x y : Nat) : l.foldl spR F x y ≤ F x y :=
  fold_ind hl (I := fun G => G x y ≤ F x y) (fun e _ G hk hG => Int.le_trans (spR_le hk G x y) hG) (Int.le_refl _)
theorem tabR_le {l : List ES} {n : Nat} (hl : ∀ e ∈ l, OkE n e) {e : ES} (he : e ∈ l) : tabR l (eA e) (eB e) ≤ e.2.2 ∧ tabR l (eB e) (eA e) ≤ -e.2.1 := by
  unfold tabR
  generalize diag far0 = F
  induction l generalizing F with
  | nil => cases he
  | cons d l ih =>
    rcases List.mem_cons.1 he with q | q
    · subst q
      have hk := hl e (by simp)
      obtain ⟨h1, _, _⟩ := hk.ab
      have k1 := fold_le (l := l) (n := n) (fun e he => hl e (by simp [he])) (spR F e) (eA e) (eB e)
      have k2 := fold_le (l := l) (n := n) (fun e he => hl e (by simp [he])) (spR F e) (eB e) (eA e)
      rw [spR_val hk, if_pos ⟨rfl, rfl⟩, imin_eq] at k1
      rw [spR_val hk, if_neg (by omega), if_pos ⟨rfl, rfl⟩, imin_eq] at k2
      simp only [List.foldl_cons]
      split at k1 <;> split at k2 <;> omega
    · exact ih (fun e he => hl e (by simp [he])) q (spR F d)
theorem tabR_under {l : List ES} {n : Nat} {c : Int} {cs : List S_api_Offer} (hl : ∀ e ∈ l, OkE n e) (hcs : ∀ o ∈ cs, okB (n : Int) c o = true) (hm : ∀ o ∈ cs, ∃ e ∈ l, e.1 = o) : Under n (diag (Stp cs)) (tabR l) := by
  have hs := st_steps hcs
  have hf := tabR_fine hl
  intro x y hx hy hlt
  unfold diag at hlt ⊢
  by_cases q : x = y
  · subst q
    rw [if_pos rfl, hf.zero x hx]
    omega
  · rw [if_neg q] at hlt ⊢
    obtain ⟨o, ho, hk, hw⟩ := hs.at_ x y hlt
    obtain ⟨e, he, rfl⟩ := hm o ho
    obtain ⟨h1, h2⟩ := tabR_le hl he
    have hk2 := hl e he
    have := hk2.l0; have := hk2.l1; have := hk2.w0; have := hk2.w1; have := hk2.hi
    rcases hk with ⟨k1, k2⟩ | ⟨k1, k2⟩
    · have e1 : eA e = x := by unfold eA; omega
      have e2 : eB e = y := by unfold eB; omega
      rw [e1, e2] at h1 h2
      omega
    · have e1 : eA e = y := by unfold eA; omega
      have e2 : eB e = x := by unfold eB; omega
      rw [e1, e2] at h1 h2
      omega
/-- What Known answers, of a table. -/
def ansR (n : Nat) (R : Tb) (a b : Nat) : S_api_Span × Bool × Int :=
  if ((List.range n).all fun c => noClash n R (c + 1)) = true then (if 1099511627776 ≤ clF n R n a b then ((0, 0), false, 0) else ((wr (0 - clF n R n b a), clF n R n a b), true, 0)) else ((0, 0), false, 31)
def ansT (n : Nat) (T : Tb) (a b : Nat) : S_api_Span × Bool × Int :=
  if noClash n T n = true then (if 1099511627776 ≤ clF n T n a b then ((0, 0), false, 0) else ((wr (0 - clF n T n a b), clF n T n b a), true, 0)) else ((0, 0), false, 31)
theorem ans_same {l : List ES} {n : Nat} (hn : n ≤ 8) (hl : ∀ e ∈ l, OkE n e) {a b : Nat} (ha : a < n) (hb : b < n) : ansR n (tabR l) a b = ansT n (tabT l) a b := by
  obtain ⟨h1, h2⟩ := clash_same hn (tabR_fine hl) (T := tabT l) (fun x y _ _ => tabT_R hl x y)
  unfold ansR ansT
  rw [h1]
  by_cases q : noClash n (tabT l) n = true
  · obtain ⟨g1, g2⟩ := h2 q
    rw [if_pos q, if_pos q, g2 a b ha hb, g2 b a hb ha]
    have s1 := g1.sym a b ha hb; have s2 := g1.sym b a hb ha
    by_cases k : 1099511627776 ≤ clF n (tabR l) n a b
    · rw [if_pos k, if_pos (by omega)]
    · rw [if_neg k, if_neg (by omega)]
  · rw [if_neg q, if_neg q]
/-- Of spans that 0 and a potential both fulfil, the difference has just the width. -/
theorem ans_width {l : List ES} {n : Nat} (hn : n ≤ 8) {c : Int} {cs : List S_api_Offer} (hl : ∀ e ∈ l, OkE n e) (hcs : ∀ o ∈ cs, okB (n : Int) c o = true) (hm : ∀ o ∈ cs, ∃ e ∈ l, e.1 = o) {q : Nat → Int}
    (h0 : ∀ x y, x < n → y < n → q y - q x ≤ 1099511627776) (h1 : ∀ e ∈ l, q (eB e) - q (eA e) ≤ e.2.2 ∧ e.2.1 ≤ q (eB e) - q (eA e)) (h2 : ∀ e ∈ l, 0 ≤ e.2.2 ∧ e.2.1 ≤ 0) {a b : Nat} (ha : a < n) (hb : b < n)
    (hw : Wd n cs a b < 1099511627776) (hqa : q a = 0) (hqb : q b = Wd n cs a b) : ∃ lo hi, ansR n (tabR l) a b = ((lo, hi), true, 0) ∧ hi - lo = Wd n cs a b ∧ lo ≤ 0 ∧ -1099511627776 < lo ∧ 0 ≤ hi ∧ hi < 1099511627776 := by
  have hs := st_steps hcs
  have hcl : Half n 0 (Stp cs) (diag (Stp cs)) := by
    refine ⟨fun a ha => ?_, fun a b ha hb => ?_, fun a b ha hb => ?_, fun a b ha hb => ?_, fun a b k _ _ hk => absurd hk (by omega), fun a b ha hb => ?_⟩
    · unfold diag; rw [if_pos rfl]
    · unfold diag; have := hs.pos a b; split <;> omega
    · unfold diag; have := hs.far a b; unfold Wh.far at *; split <;> omega
    · unfold diag; have := hs.pos a b; split <;> omega
    · unfold diag
      split
      · rename_i q; subst q; intro _; exact ⟨0, .nil ha⟩
      · intro q; exact ⟨1, .one ha hb q⟩
  obtain ⟨g1, g2, g3, g4, g5⟩ := spans_hold hn hcl (tabR_fine hl) (tabR_under hl hcs hm) (tabR_feas hl (q := fun _ => 0) (by intros; omega) (fun e he => by have := h2 e he; omega)) (tabR_feas hl h0 h1) n (Nat.le_refl _)
  have e1 : Wd n cs = itr (fun c F => phs hmin n c F) n (diag (Stp cs)) := by unfold Wd; rw [fw_cls]; rfl
  rw [← e1] at g3
  obtain ⟨u1, u2, u3⟩ := g3 a b ha hb hw
  have f1 := g5 a b ha hb
  have f2 := g4 b a hb ha
  have f3 := g4 a b ha hb
  have l1 := g2.lo b a hb ha
  simp only [Int.sub_self] at f2 f3
  refine ⟨-clF n (tabR l) n b a, clF n (tabR l) n a b, ?_, by omega, by omega, by omega, by omega, u1⟩
  unfold ansR
  rw [if_pos (List.all_eq_true.2 fun j hj => g1 j (List.mem_range.1 hj)), if_neg (by omega), wr_id (by omega) (by omega), Int.zero_sub]
end Go.Proofs.Ytkbilbeaedocjaa
