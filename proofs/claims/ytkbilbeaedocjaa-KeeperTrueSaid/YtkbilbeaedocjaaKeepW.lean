/-
  What is proved: a search in depth along steps of least ways finds a way of the least width.
  what CheckPath answers, here and in the specification.
  what Path answers: a way of the least width, which CheckPath accepts.
-/
import Derived.Test.YtkbilbeaedocjaaKeepK
import Derived.Test.YtkbilbeaedocjaaModelN
namespace Go.Proofs.Ytkbilbeaedocjaa
open Go Go.Proofs.Ytkbilbeaedocjaa.Wh

/-- A step of a least way to b. -/
def Tight (S W : Nat → Nat → Int) (b x c : Nat) : Prop := S x c < 1099511627776 ∧ S x c + W c b = W x b
instance (S W : Nat → Nat → Int) (b x c : Nat) : Decidable (Tight S W b x c) := by unfold Tight; infer_instance
theorem Wh.Walk.first {n : Nat} {S : Nat → Nat → Int} {a : Nat} : ∀ {k b : Nat} {v : Int}, Walk n S a b (k + 1) v → ∃ x u, x < n ∧ S a x < Wh.far ∧ Walk n S x b k u ∧ v = S a x + u
  | 0, b, v, h => by
    obtain ⟨x, u, h1, h2, h3, h4⟩ := h.last
    obtain ⟨rfl, rfl⟩ := h1.zero
    exact ⟨b, 0, h4, h2, .nil h4, by omega⟩
  | k + 1, b, v, h => by
    obtain ⟨x, u, h1, h2, h3, h4⟩ := h.last
    obtain ⟨y, w, q1, q2, q3, q4⟩ := Walk.first h1
    exact ⟨y, w + S x b, q1, q2, .step q3 h4 h2, by omega⟩
theorem cl_next {n : Nat} {S W : Nat → Nat → Int} (h : Cl n S W) {x b k : Nat} (hw : Walk n S x b (k + 1) (W x b)) : ∃ c, c < n ∧ Tight S W b x c ∧ Walk n S c b k (W c b) := by
  obtain ⟨c, u, h1, h2, h3, h4⟩ := hw.first
  have e1 := h.walk h3
  have e2 := h.tri x c b hw.ends.1 h1 hw.ends.2
  have e3 := h.le x c hw.ends.1 h1
  have e : u = W c b := by omega
  subst e
  exact ⟨c, h1, ⟨h2, by omega⟩, h3⟩
/-- What is closed under such steps has b. -/
theorem cl_reach {n : Nat} {S W : Nat → Nat → Int} (h : Cl n S W) {b : Nat} {P : Nat → Prop} (hP : ∀ x c, P x → c < n → Tight S W b x c → P c) : ∀ k x, P x → Walk n S x b k (W x b) → P b
  | 0, x, hx, hw => by obtain ⟨rfl, _⟩ := hw.zero; exact hx
  | k + 1, x, hx, hw => by
    obtain ⟨c, h1, h2, h3⟩ := cl_next h hw
    exact cl_reach h hP k c (hP x c hx h1 h2) h3
/-- A way of such steps. -/
def TPath (n : Nat) (S W : Nat → Nat → Int) (b : Nat) : Nat → List Nat → Prop
  | x, [] => x = b
  | x, c :: r => c < n ∧ Tight S W b x c ∧ TPath n S W b c r
/-- What steps add up to. -/
def psum (S : Nat → Nat → Int) : Nat → List Nat → Int
  | _, [] => 0
  | x, c :: r => S x c + psum S c r
theorem TPath.sum {n : Nat} {S W : Nat → Nat → Int} {b : Nat} (h0 : W b b = 0) : ∀ {p : List Nat} {x : Nat}, TPath n S W b x p → psum S x p = W x b
  | [], x, h => by have h : x = b := h; subst h; exact h0.symm
  | c :: r, x, ⟨_, h2, h3⟩ => by
    have := TPath.sum h0 h3
    have := h2.2
    show S x c + psum S c r = _
    omega
theorem TPath.far {n : Nat} {S W : Nat → Nat → Int} {b : Nat} : ∀ {p : List Nat} {x : Nat}, TPath n S W b x p → ∀ (j y : Nat), (x :: p)[j]? = some y → ∀ z : Nat, p[j]? = some z → z < n ∧ S y z < 1099511627776
  | [], x, _, j, y, h1, z, h2 => by cases h2
  | c :: r, x, ⟨h1, h2, h3⟩, 0, y, e1, z, e2 => by simp at e1 e2; subst e1; subst e2; exact ⟨h1, h2.1⟩
  | c :: r, x, ⟨h1, h2, h3⟩, j + 1, y, e1, z, e2 => by
    simp only [List.getElem?_cons_succ] at e1 e2
    exact TPath.far h3 j y e1 z e2
theorem TPath.last {n : Nat} {S W : Nat → Nat → Int} {b : Nat} : ∀ {p : List Nat} {x : Nat}, TPath n S W b x p → (x :: p).getLast (by simp) = b
  | [], x, h => h
  | c :: r, x, ⟨_, _, h3⟩ => by rw [List.getLast_cons (by simp)]; exact TPath.last h3
/-- What a search from x leaves: marks, and the way that is found. -/
structure DfsR (n : Nat) (S W : Nat → Nat → Int) (b x : Nat) (on : Nat → Bool) (r : Bool) (on' : Nat → Bool) (p : List Nat) : Prop where
  up : ∀ y, on y = true → on' y = true
  ok : r = true → TPath n S W b x p ∧ p.Nodup ∧ ∀ y ∈ p, on y = false ∧ y < n
  no : r = false → p = [] ∧ x ≠ b ∧ (∀ c, c < n → Tight S W b x c → on' c = true) ∧ ∀ y, on' y = true → on y = false → y < n ∧ y ≠ b ∧ ∀ c, c < n → Tight S W b y c → on' c = true
/-- What the search through the first j next clocks leaves, none of which leads to b. -/
structure DfsL (n : Nat) (S W : Nat → Nat → Int) (b x j : Nat) (on on' : Nat → Bool) : Prop where
  up : ∀ y, on y = true → on' y = true
  ne : x ≠ b
  all : ∀ c, c < j → Tight S W b x c → on' c = true
  new : ∀ y, on' y = true → on y = false → y < n ∧ y ≠ b ∧ ∀ c, c < n → Tight S W b y c → on' c = true
theorem DfsL.nil {n : Nat} {S W : Nat → Nat → Int} {b x : Nat} {on : Nat → Bool} (h : x ≠ b) : DfsL n S W b x 0 on on :=
  ⟨fun _ h => h, h, fun c h => absurd h (Nat.not_lt_zero _), fun y h1 h2 => by rw [h1] at h2; cases h2⟩
theorem DfsL.skip {n : Nat} {S W : Nat → Nat → Int} {b x j : Nat} {on on' : Nat → Bool} (h : DfsL n S W b x j on on') (hc : on' j = true ∨ ¬ Tight S W b x j) : DfsL n S W b x (j + 1) on on' :=
  ⟨h.up, h.ne, fun c hc' ht => by
    by_cases q : c = j
    · subst q
      rcases hc with e | e
      · exact e
      · exact absurd ht e
    · exact h.all c (by omega) ht, h.new⟩
def mark (on : Nat → Bool) (c : Nat) : Nat → Bool := fun y => if y = c then true else on y
theorem mark_up {on : Nat → Bool} {c y : Nat} (h : on y = true) : mark on c y = true := by
  unfold mark
  split
  · rfl
  · exact h
theorem DfsL.deep {n : Nat} {S W : Nat → Nat → Int} {b x j : Nat} {on on' on2 : Nat → Bool} {p : List Nat} (hj : j < n) (h : DfsL n S W b x j on on') (hd : DfsR n S W b j (mark on' j) false on2 p) : DfsL n S W b x (j + 1) on on2 := by
  obtain ⟨_, h2, h3, h4⟩ := hd.no rfl
  have up : ∀ y, on' y = true → on2 y = true := fun y hy => hd.up y (mark_up hy)
  have hj2 : on2 j = true := hd.up j (by simp [mark])
  refine ⟨fun y hy => up y (h.up y hy), h.ne, fun c hc ht => ?_, fun y h5 h6 => ?_⟩
  · by_cases q : c = j
    · subst q; exact hj2
    · exact up c (h.all c (by omega) ht)
  · by_cases q : y = j
    · subst q; exact ⟨hj, h2, h3⟩
    · by_cases q2 : on' y = true
      · obtain ⟨k1, k2, k3⟩ := h.new y q2 h6
        exact ⟨k1, k2, fun c hc ht => up c (k3 c hc ht)⟩
      · exact h4 y h5 (by unfold mark; rw [if_neg q]; simpa using q2)
theorem DfsL.done {n : Nat} {S W : Nat → Nat → Int} {b x : Nat} {on on' : Nat → Bool} (h : DfsL n S W b x n on on') : DfsR n S W b x on false on' [] :=
  ⟨h.up, fun e => (by cases e), fun _ => ⟨rfl, h.ne, h.all, h.new⟩⟩
theorem DfsL.found {n : Nat} {S W : Nat → Nat → Int} {b x j : Nat} {on on' on2 : Nat → Bool} {p : List Nat} (hj : j < n) (h : DfsL n S W b x j on on') (ho : on' j = false) (ht : Tight S W b x j) (hd : DfsR n S W b j (mark on' j) true on2 p) : DfsR n S W b x on true on2 (j :: p) := by
  obtain ⟨h1, h2, h3⟩ := hd.ok rfl
  have hon : on j = false := by
    cases q : on j with
    | false => rfl
    | true => rw [h.up j q] at ho; cases ho
  refine ⟨fun y hy => hd.up y (mark_up (h.up y hy)), fun _ => ⟨⟨hj, ht, h1⟩, List.nodup_cons.2 ⟨fun hm => ?_, h2⟩, fun y hy => ?_⟩, fun e => by cases e⟩
  · have := (h3 j hm).1
    simp [mark] at this
  · rcases List.mem_cons.1 hy with e | e
    · subst e; exact ⟨hon, hj⟩
    · have hy := h3 y e
      refine ⟨?_, hy.2⟩
      cases q : on y with
      | false => rfl
      | true =>
        have := hy.1
        unfold mark at this
        split at this
        · cases this
        · rw [h.up y q] at this; cases this
/-- From the beginning the search finds b. -/
theorem dfs_finds {n : Nat} {S W : Nat → Nat → Int} (h : Cl n S W) {a b : Nat} (ha : a < n) (hb : b < n) (hW : W a b < Wh.far) {r : Bool} {on' : Nat → Bool} {p : List Nat} (hd : DfsR n S W b a (mark (fun _ => false) a) r on' p) : r = true ∧ TPath n S W b a p ∧ p.length < n ∧ ∀ y ∈ p, y < n := by
  cases r with
  | true =>
    obtain ⟨h1, h2, h3⟩ := hd.ok rfl
    refine ⟨rfl, h1, ?_, fun y hy => (h3 y hy).2⟩
    have := nodup_le n (a :: p) (List.nodup_cons.2 ⟨fun hm => by have := (h3 a hm).1; simp [mark] at this, h2⟩) (fun x hx => by
      rcases List.mem_cons.1 hx with e | e
      · subst e; exact ha
      · exact (h3 x e).2)
    simp at this
    omega
  | false =>
    exfalso
    obtain ⟨_, h2, h3, h4⟩ := hd.no rfl
    obtain ⟨k, hw⟩ := h.att a b ha hb hW
    have hP : ∀ x c, on' x = true → c < n → Tight S W b x c → on' c = true := fun x c hx hc ht => by
      by_cases q : x = a
      · subst q; exact h3 c hc ht
      · exact (h4 x hx (by simp [mark, q])).2.2 c hc ht
    have hbt := cl_reach h hP k a (hd.up a (by simp [mark])) hw
    exact (h4 b hbt (by simp [mark]; exact fun e => h2 e.symm)).2.1 rfl
end Go.Proofs.Ytkbilbeaedocjaa

namespace Go.Proofs.Ytkbilbeaedocjaa
open Go Go.Proofs.Ytkbilbeaedocjaa.Wh
set_option maxRecDepth 100000

/-! ### a single step -/
def linkI (o : S_api_Offer) (x y : Int) : Bool := (o.1 == x && o.2.1 == y) || (o.1 == y && o.2.1 == x)
def stF (x y : Int) (m : Int) (o : S_api_Offer) : Int := if linkI o x y = true then imin m o.2.2.2 else m
theorem stF_fold (x y : Int) : ∀ (cs : List S_api_Offer) (m : Int), cs.foldl (stF x y) m ≤ m ∧ (∀ o ∈ cs, linkI o x y = true → cs.foldl (stF x y) m ≤ o.2.2.2) ∧ (cs.foldl (stF x y) m = m ∨ ∃ o ∈ cs, linkI o x y = true ∧ cs.foldl (stF x y) m = o.2.2.2)
  | [], m => ⟨Int.le_refl _, fun o ho => (by cases ho), .inl rfl⟩
  | o :: cs, m => by
    obtain ⟨h1, h2, h3⟩ := stF_fold x y cs (stF x y m o)
    simp only [List.foldl_cons]
    have key : stF x y m o ≤ m ∧ (linkI o x y = true → stF x y m o ≤ o.2.2.2) ∧ (stF x y m o = m ∨ (linkI o x y = true ∧ stF x y m o = o.2.2.2)) := by
      unfold stF imin
      by_cases q : linkI o x y = true
      · simp only [q, if_true]
        split <;> simp <;> omega
      · simp only [q, if_false]
        simp
    refine ⟨by omega, fun p hp hl => ?_, ?_⟩
    · rcases List.mem_cons.1 hp with e | e
      · subst e; have := key.2.1 hl; omega
      · exact h2 p e hl
    · rcases h3 with e | ⟨p, hp, hl, e⟩
      · rcases key.2.2 with k | ⟨k1, k2⟩
        · exact .inl (by rw [e, k])
        · exact .inr ⟨o, by simp, k1, by rw [e, k2]⟩
      · exact .inr ⟨p, by simp [hp], hl, e⟩
def stI (n : Nat) (S : Nat → Nat → Int) (x y : Int) : Int := if 0 ≤ x ∧ x < (n : Int) ∧ 0 ≤ y ∧ y < (n : Int) then S x.toNat y.toNat else 1099511627776
theorem linkI_iff {o : S_api_Offer} {a b : Nat} : linkI o (a : Int) (b : Int) = true ↔ link o a b := by
  unfold linkI link; simp
theorem fold_st {n : Nat} {c : Int} {cs : List S_api_Offer} (h : ∀ o ∈ cs, okB (n : Int) c o = true) (x y : Int) : cs.foldl (stF x y) 1099511627776 = stI n (Stp cs) x y := by
  have hs := st_steps h
  obtain ⟨h1, h2, h3⟩ := stF_fold x y cs 1099511627776
  unfold stI
  by_cases q : 0 ≤ x ∧ x < (n : Int) ∧ 0 ≤ y ∧ y < (n : Int)
  · rw [if_pos q]
    obtain ⟨a, rfl⟩ := Int.eq_ofNat_of_zero_le q.1
    obtain ⟨b, rfl⟩ := Int.eq_ofNat_of_zero_le q.2.2.1
    simp only [Int.toNat_natCast]
    have hf := hs.far a b
    unfold Wh.far at hf
    apply Int.le_antisymm
    · by_cases e : Stp cs a b < Wh.far
      · obtain ⟨o, ho, hl, e2⟩ := hs.at_ a b e
        rw [e2]
        exact h2 o ho (linkI_iff.2 hl)
      · unfold Wh.far at e; omega
    · rcases h3 with e | ⟨o, ho, hl, e⟩
      · rw [e]; exact hf
      · rw [e]; exact hs.le o ho a b (linkI_iff.1 hl)
  · rw [if_neg q]
    rcases h3 with e | ⟨o, ho, hl, e⟩
    · exact e
    · exfalso
      have := h o ho
      unfold okB at this
      unfold linkI at hl
      simp at this hl
      omega
theorem f114_eq {n : Nat} {c : Int} {cs : List S_api_Offer} (h : ∀ o ∈ cs, okB (n : Int) c o = true) (hl : cs.length ≤ 40) (x y : Int) : M.f114 1000 cs x y = some (stI n (Stp cs) x y) := by
  rw [← fold_st h x y]
  unfold M.f114
  refine bnd (loopM_go (N := cs.length) (fun j => ((cs.take j).foldl (stF x y) 1099511627776, (j : Int))) (cs.foldl (stF x y) 1099511627776) rfl (by omega) (fun j hj => ?_) ?_) rfl
  · rw [if_pos (by simpa using hj)]
    have hx := List.getElem?_eq_getElem hj
    rw [take_foldl hx]
    simp only [idx_nat, hx]
    generalize cs[j] = o
    generalize (cs.take j).foldl (stF x y) 1099511627776 = m
    simp only [Option.bind_eq_bind, Option.bind_some]
    rw [wr_id (show -9223372036854775808 ≤ ((j : Int) + 1) by omega) (by omega)]
    have e0 : stF x y m o = if linkI o x y = true then imin m o.2.2.2 else m := rfl
    unfold linkI at e0
    cases h1 : (o.1 == x) <;> cases h2 : (o.2.1 == y) <;> cases h3 : (o.1 == y) <;> cases h4 : (o.2.1 == x) <;> rw [h1, h2, h3, h4] at e0 <;> simp only [Bool.and_true, Bool.and_false, Bool.or_false, Bool.or_true, Bool.false_or, Bool.true_or, if_true, if_false, Bool.false_eq_true] at e0 <;> rw [e0] <;> simp only [h1, h2, h3, h4, guardO, Bool.and_true, Bool.and_false, Bool.true_and, Bool.false_and, Bool.or_false, Bool.or_true, Bool.not_true, Bool.not_false, Bool.false_or, Bool.true_or, Option.bind_some, if_true, if_false, Bool.false_eq_true] <;> rfl
  · rw [if_neg (by simp), List.take_length]
/-! ### a way -/
def pAt (p : List Int) (i : Nat) : Int := (p[i]?).getD 0
def sumTo (st : Int → Int → Int) (p : List Int) : Nat → Int
  | 0 => 0
  | j + 1 => if j = 0 then 0 else sumTo st p j + st (pAt p (j - 1)) (pAt p j)
def goodTo (st : Int → Int → Int) (p : List Int) (j : Nat) : Prop := ∀ i, 1 ≤ i → i < j → st (pAt p (i - 1)) (pAt p i) < 1099511627776
def ends (a b : Nat) (p : List Int) : Bool := decide (1 ≤ p.length) && decide (p.length ≤ 64) && (pAt p 0 == (a : Int)) && (pAt p (p.length - 1) == (b : Int))
open Classical in
noncomputable def cpR (n : Nat) (S : Nat → Nat → Int) (a b : Nat) (w : Int) (p : List Int) : Int :=
  if ends a b p = true ∧ goodTo (stI n S) p p.length ∧ sumTo (stI n S) p p.length ≤ w then 0 else 32
theorem stI_range {n : Nat} {S : Nat → Nat → Int} (hS : ∀ a b, 0 ≤ S a b ∧ S a b ≤ 1099511627776) (x y : Int) : 0 ≤ stI n S x y ∧ stI n S x y ≤ 1099511627776 := by
  unfold stI
  split
  · exact hS _ _
  · omega
theorem sumTo_range {n : Nat} {S : Nat → Nat → Int} (hS : ∀ a b, 0 ≤ S a b ∧ S a b ≤ 1099511627776) (p : List Int) : ∀ j, 0 ≤ sumTo (stI n S) p j ∧ sumTo (stI n S) p j ≤ 1099511627776 * (j : Int)
  | 0 => by unfold sumTo; omega
  | j + 1 => by
    have h1 := sumTo_range (n := n) hS p j
    have h2 := stI_range (n := n) hS (pAt p (j - 1)) (pAt p j)
    unfold sumTo
    split <;> omega
theorem sumTo_mono {n : Nat} {S : Nat → Nat → Int} (hS : ∀ a b, 0 ≤ S a b ∧ S a b ≤ 1099511627776) (p : List Int) {i : Nat} (hi : 1 ≤ i) : ∀ {j : Nat}, i < j → stI n S (pAt p (i - 1)) (pAt p i) ≤ sumTo (stI n S) p j
  | 0, h => absurd h (by omega)
  | j + 1, h => by
    have h2 := stI_range (n := n) hS (pAt p (j - 1)) (pAt p j)
    have h1 := sumTo_range (n := n) hS p j
    unfold sumTo
    rw [if_neg (by omega)]
    by_cases q : i = j
    · subst q; omega
    · have := sumTo_mono (n := n) hS p hi (j := j) (by omega)
      omega
theorem pAt_idx {p : List Int} {i : Nat} (h : i < p.length) : idx p (i : Int) = some (pAt p i) := by
  rw [idx_nat]; unfold pAt; rw [List.getElem?_eq_getElem h]; rfl
/-- The first tests of both. -/
theorem ends_test (p : List Int) (a b : Nat) {α : Type} (u v : Option α) :
    ((guardO (!((decide ((p.length : Int) < 1)) || (decide (64 < (p.length : Int))))) (idx p 0)) >>= fun v_3 =>
     (guardO (!(((decide ((p.length : Int) < 1)) || (decide (64 < (p.length : Int)))) || (v_3 != (a : Int)))) (idx p (wr ((p.length : Int) - 1)))) >>= fun v_5 =>
     (if ((((decide ((p.length : Int) < 1)) || (decide (64 < (p.length : Int)))) || (v_3 != (a : Int))) || (v_5 != (b : Int))) = true then u else v)) = if ends a b p = true then v else u := by
  by_cases h : p.length < 1 ∨ 64 < p.length
  · have e1 : ((decide ((p.length : Int) < 1)) || (decide (64 < (p.length : Int)))) = true := by simp; omega
    rw [e1]
    have e2 : ends a b p = false := by unfold ends; rcases h with h | h <;> simp <;> omega
    rw [e2]
    simp [guardO]
  · have e1 : ((decide ((p.length : Int) < 1)) || (decide (64 < (p.length : Int)))) = false := by simp; omega
    rw [e1]
    have h0 : idx p 0 = some (pAt p 0) := pAt_idx (i := 0) (by omega)
    have hl : idx p (wr ((p.length : Int) - 1)) = some (pAt p (p.length - 1)) := by
      rw [wr_id (by omega) (by omega), show ((p.length : Int) - 1) = ((p.length - 1 : Nat) : Int) from by omega]
      exact pAt_idx (by omega)
    rw [h0, hl]
    have e2 : ends a b p = ((pAt p 0 == (a : Int)) && (pAt p (p.length - 1) == (b : Int))) := by
      unfold ends
      rw [decide_eq_true (show 1 ≤ p.length by omega), decide_eq_true (show p.length ≤ 64 by omega)]
      simp
    rw [e2]
    cases h3 : (pAt p 0 == (a : Int)) with
    | false => simp only [guardO, bne, h3, Option.bind_eq_bind, Option.bind_some, Bool.not_false, Bool.false_or, Bool.or_true, Bool.true_or, Bool.not_true, Bool.false_and, if_true, if_false, Bool.false_eq_true]
    | true =>
      cases h4 : (pAt p (p.length - 1) == (b : Int)) <;> simp only [guardO, bne, h3, h4, Option.bind_eq_bind, Option.bind_some, Bool.not_false, Bool.false_or, Bool.or_true, Bool.or_false, Bool.true_or, Bool.not_true, Bool.true_and, Bool.false_and, if_true, if_false, Bool.false_eq_true]
section
variable {n : Nat} {kn of : List S_api_Offer} (hm : Ok n kn of)
include hm
theorem Ok.st_range (s : Nat) (a b : Nat) : 0 ≤ Stp (csS kn of s) a b ∧ Stp (csS kn of s) a b ≤ 1099511627776 := ⟨(hm.st s).pos a b, (hm.st s).far a b⟩
theorem Ok.f113 {s : Nat} (hs : s < 2 ^ of.length) : M.f113 ((n : Int), kn, of) (s : Int) = some (mat n (Stp (csS kn of s))) := by
  have := f113_eq (n := n) (kn := kn) (of := of) (s := s) hm.n2 hm.n8 hm.lk (fun i hi => by rw [hm.selE hs] at hi; exact sel_lt hi) (fun o ho => hm.okC o ho)
  rw [hm.selE hs] at this
  exact this
omit hm in
theorem stI_in {S : Nat → Nat → Int} {x y : Int} (h1 : 0 ≤ x) (h2 : x < (n : Int)) (h3 : 0 ≤ y) (h4 : y < (n : Int)) : (idx (mat n S) x >>= fun v => idx v y) = some (stI n S x y) := by
  unfold stI
  rw [if_pos ⟨h1, h2, h3, h4⟩]
  obtain ⟨a, rfl⟩ := Int.eq_ofNat_of_zero_le h1
  obtain ⟨b, rfl⟩ := Int.eq_ofNat_of_zero_le h3
  simp only [Option.bind_eq_bind, idx_mat (show a < n by omega), Option.bind_some, idx_row (show b < n by omega), Int.toNat_natCast]
theorem Ok.f64 {s a b : Nat} (hs : s < 2 ^ of.length) (ha : a < n) (hb : b < n) {w : Int} (hw : w ≤ 16777216) (hc : codeQ ((n : Int), kn, of) (cst (sel of.length s)) [(a : Int), (b : Int)] [w] = 0) (p : List Int) :
    M.f64 ((n : Int), kn, of) (cst (sel of.length s)) a b w p = some (cpR n (Stp (csS kn of s)) a b w p) := by
  have h6 := hm.lo
  have h7 := sel_len of.length s
  have hR := hm.st_range s
  unfold M.f64
  refine bnd (f76_eqQ _ _ _ _ (by rw [cst_length]; omega) (by simp) (by simp)) ?_
  rw [hc, if_neg (by simp), ends_test]
  by_cases he : ends a b p = true
  · rw [if_pos he]
    have hlen : 1 ≤ p.length ∧ p.length ≤ 64 ∧ pAt p 0 = (a : Int) := by
      unfold ends at he; simp at he; omega
    refine bnd (hm.set hs) (bnd (hm.f113 hs) ?_)
    generalize hS : Stp (csS kn of s) = S at *
    let q : Nat → Bool := fun j => decide (0 ≤ pAt p j) && decide (pAt p j < (n : Int))
    refine bnd (forM_st (N := p.length) (sumTo (stI n S) p) (fun j => if q j = true then none else some 32) rfl (by omega) fun j hj hq => ?_) ?_
    · simp only [pAt_idx hj, Option.bind_eq_bind, Option.bind_some]
      by_cases h1 : q j = true
      · have h1' : 0 ≤ pAt p j ∧ pAt p j < (n : Int) := by simpa [q] using h1
        rw [if_neg (by simp; omega), if_pos h1]
        by_cases h0 : j = 0
        · subst h0
          simp [sumTo]
        · rw [if_pos (by simp; omega), wr_id (by omega) (by omega), show ((j : Int) - 1) = ((j - 1 : Nat) : Int) from by omega, pAt_idx (by omega)]
          have h2 := hq (j - 1) (by omega)
          have h2' : 0 ≤ pAt p (j - 1) ∧ pAt p (j - 1) < (n : Int) := by
            by_cases e : q (j - 1) = true
            · simpa [q] using e
            · rw [if_neg e] at h2; cases h2
          have h3 := stI_in (S := S) h2'.1 h2'.2 h1'.1 h1'.2
          simp only [Option.bind_eq_bind] at h3
          simp only [Option.bind_some]
          have h4 := sumTo_range (n := n) hR p j
          have h5 := stI_range (n := n) hR (pAt p (j - 1)) (pAt p j)
          have e : sumTo (stI n S) p (j + 1) = sumTo (stI n S) p j + stI n S (pAt p (j - 1)) (pAt p j) := by
            show (if j = 0 then 0 else _) = _
            rw [if_neg h0]
          rw [e]
          cases hv : idx (mat n S) (pAt p (j - 1)) with
          | none => rw [hv] at h3; cases h3
          | some v =>
            rw [hv] at h3
            simp only [Option.bind_some] at h3
            simp only [Option.bind_some, h3]
            rw [wr_id (by omega) (by omega)]
      · have h1' : ¬ (0 ≤ pAt p j ∧ pAt p j < (n : Int)) := by simpa [q] using h1
        rw [if_pos (by simp; omega), if_neg h1]
    · rw [findAll]
      unfold cpR
      by_cases hall : (List.range p.length).all q = true
      · rw [if_pos hall]
        simp only [Out.elim]
        by_cases hsum : sumTo (stI n S) p p.length ≤ w
        · rw [if_neg (by simpa using hsum), if_pos ⟨he, fun i h1 h2 => by have := sumTo_mono (n := n) hR p h1 h2; omega, hsum⟩]
        · rw [if_pos (by simp; omega), if_neg (fun h => hsum h.2.2)]
      · rw [if_neg hall]
        simp only [Out.elim]
        rw [if_neg ?_]
        rintro ⟨_, hg, _⟩
        apply hall
        rw [List.all_eq_true]
        intro j hj
        have hj := List.mem_range.1 hj
        by_cases h0 : j = 0
        · subst h0; simp [q, hlen.2.2]; omega
        · have := hg j (by omega) hj
          unfold stI at this
          split at this
          · rename_i h; simp [q]; omega
          · omega
  · rw [if_neg he]
    unfold cpR
    rw [if_neg (fun h => he h.1)]
theorem Ok.f65 {s a b : Nat} (ha : a < n) (hb : b < n) {w : Int} (hc : codeQ ((n : Int), kn, of) (cst (sel of.length s)) [(a : Int), (b : Int)] [w] = 0) (p : List Int) :
    M.f65 1000 ((n : Int), kn, of) (cst (sel of.length s)) a b w p = some (cpR n (Stp (csS kn of s)) a b w p) := by
  have h6 := hm.lo; have hk := hm.lk
  have h7 := sel_len of.length s
  have hR := hm.st_range s
  unfold M.f65
  refine bnd (f72_eqQ _ _ _ _ (by rw [cst_length]; omega) (by simp)) ?_
  rw [hc, if_neg (by simp), ends_test]
  by_cases he : ends a b p = true
  · rw [if_pos he]
    have hlen : 1 ≤ p.length ∧ p.length ≤ 64 := by
      unfold ends at he; simp at he; omega
    refine bnd hm.cmps ?_
    have hcs : (csS kn of s).length ≤ 40 := by
      have := picks_len of (sel of.length s)
      unfold csS; rw [List.length_append]; omega
    let q : Nat → Bool := fun j => decide (stI n (Stp (csS kn of s)) (pAt p j) (pAt p (j + 1)) < 1099511627776)
    refine bnd (loopM_test (ρ := Int ⊕ Int) (N := p.length - 1) (fun j => (sumTo (stI n (Stp (csS kn of s))) p (j + 1), ((j + 1 : Nat) : Int))) q (.inr 32) (.inl (sumTo (stI n (Stp (csS kn of s))) p p.length)) rfl (by omega) (fun j hj _ => ?_) ?_) ?_
    · rw [if_pos (by simp; omega)]
      rw [show wr (((j + 1 : Nat) : Int) - 1) = (j : Int) from by rw [wr_id (by omega) (by omega)]; omega]
      rw [pAt_idx (show j < p.length by omega), pAt_idx (show j + 1 < p.length by omega)]
      simp only [Option.bind_eq_bind, Option.bind_some]
      have e114 := f114_eq (hm.okS s) hcs (pAt p j) (pAt p (j + 1))
      unfold csS at e114
      rw [e114]
      simp only [Option.bind_some]
      have h4 := sumTo_range (n := n) hR p (j + 1)
      have h5 := stI_range (n := n) hR (pAt p j) (pAt p (j + 1))
      have e : sumTo (stI n (Stp (csS kn of s))) p (j + 1 + 1) = sumTo (stI n (Stp (csS kn of s))) p (j + 1) + stI n (Stp (csS kn of s)) (pAt p j) (pAt p (j + 1)) := by
        show (if j + 1 = 0 then 0 else _) = _
        rw [if_neg (by omega)]; rfl
      have hq : q j = decide (stI n (Stp (csS kn of s)) (pAt p j) (pAt p (j + 1)) < 1099511627776) := rfl
      rw [hq]
      unfold csS at *
      by_cases h : stI n (Stp (kn ++ picks of (sel of.length s))) (pAt p j) (pAt p (j + 1)) < 1099511627776
      · rw [if_neg (by simpa using h), if_pos (by simpa using h), e, wr_id (by omega) (by omega), wr_id (by omega) (by omega)]
        rfl
      · rw [if_pos (by simpa using h), if_neg (by simpa using h)]
    · rw [if_neg (by simp; omega), show p.length - 1 + 1 = p.length from by omega]
    · unfold cpR
      by_cases hall : (List.range (p.length - 1)).all q = true
      · rw [if_pos hall]
        have hg : goodTo (stI n (Stp (csS kn of s))) p p.length := fun i h1 h2 => by
          have := List.all_eq_true.1 hall (i - 1) (List.mem_range.2 (by omega))
          have := of_decide_eq_true this
          rwa [show i - 1 + 1 = i from by omega] at this
        simp only [sumE]
        by_cases hsum : sumTo (stI n (Stp (csS kn of s))) p p.length ≤ w
        · rw [if_neg (by simpa using hsum), if_pos ⟨he, hg, hsum⟩]
        · rw [if_pos (by simp; omega), if_neg (fun h => hsum h.2.2)]
      · rw [if_neg hall]
        simp only [sumE]
        rw [if_neg ?_]
        rintro ⟨_, hg, _⟩
        apply hall
        rw [List.all_eq_true]
        intro j hj
        have hj := List.mem_range.1 hj
        have := hg (j + 1) (by omega) (by omega)
        simpa [q] using this
  · rw [if_neg he]
    unfold cpR
    rw [if_neg (fun h => he h.1)]
/-- What is accepted is a way. -/
theorem Ok.accepted {s a b : Nat} (ha : a < n) {w : Int} {p : List Int} (h : cpR n (Stp (csS kn of s)) a b w p = 0) : WdS n kn of s a b ≤ w := by
  unfold cpR at h
  split at h
  · rename_i q
    obtain ⟨he, hg, hs⟩ := q
    have hlen : 1 ≤ p.length ∧ pAt p 0 = (a : Int) ∧ pAt p (p.length - 1) = (b : Int) := by
      unfold ends at he; simp at he; omega
    have key : ∀ j, j < p.length → ∃ c : Nat, pAt p j = (c : Int) ∧ Walk n (Stp (csS kn of s)) a c j (sumTo (stI n (Stp (csS kn of s))) p (j + 1)) := by
      intro j
      induction j with
      | zero => exact fun _ => ⟨a, hlen.2.1, .nil ha⟩
      | succ j ih =>
        intro hj
        obtain ⟨c, hc, hw⟩ := ih (by omega)
        have h1 := hg (j + 1) (by omega) hj
        have e : sumTo (stI n (Stp (csS kn of s))) p (j + 1 + 1) = sumTo (stI n (Stp (csS kn of s))) p (j + 1) + stI n (Stp (csS kn of s)) (pAt p j) (pAt p (j + 1)) := by
          show (if j + 1 = 0 then 0 else _) = _
          rw [if_neg (by omega)]; rfl
        rw [e]
        simp only [Nat.add_sub_cancel] at h1
        unfold stI at h1
        split at h1
        · rename_i q
          obtain ⟨d, hd⟩ := Int.eq_ofNat_of_zero_le q.2.2.1
          refine ⟨d, hd, ?_⟩
          have e2 : stI n (Stp (csS kn of s)) (pAt p j) (pAt p (j + 1)) = Stp (csS kn of s) c d := by
            unfold stI
            rw [if_pos q, hc, hd]; simp
          rw [e2]
          refine .step hw (by omega) ?_
          rw [hc, hd] at h1
          simpa [Wh.far] using h1
        · omega
    obtain ⟨c, hc, hw⟩ := key (p.length - 1) (by omega)
    have : c = b := by omega
    subst this
    rw [show p.length - 1 + 1 = p.length from by omega] at hw
    have := (hm.cl s).walk hw
    omega
  · cases h
end
end Go.Proofs.Ytkbilbeaedocjaa

namespace Go.Proofs.Ytkbilbeaedocjaa
open Go Go.Proofs.Ytkbilbeaedocjaa.Wh
set_option maxRecDepth 100000

/-! ### marks -/
def vb (v : Vector Bool 8) (c : Nat) : Bool := (v.toList[c]?).getD false
theorem idxA_vb {v : Vector Bool 8} {c : Nat} (h : c < 8) : idxA v (c : Int) = some (vb v c) := by
  unfold idxA vb
  rw [idx_nat, List.getElem?_eq_getElem (by simpa using h)]
  rfl
theorem setA_vb {v : Vector Bool 8} {c : Nat} (h : c < 8) : ∃ v', setA v (c : Int) true = some v' ∧ vb v' = mark (vb v) c := by
  refine ⟨v.set c true h, ?_, ?_⟩
  · unfold setA
    rw [dif_pos ⟨by omega, by simpa using h⟩]
    rfl
  · funext y
    unfold vb mark
    rw [Vector.toList_set, List.getElem?_set]
    by_cases q : c = y
    · subst q
      rw [if_pos rfl, if_pos rfl, if_pos (by simpa using h)]
      rfl
    · rw [if_neg q, if_neg (fun e => q e.symm)]
def cntU : Nat → (Nat → Bool) → Nat
  | 0, _ => 0
  | n + 1, on => cntU n on + if on n = true then 0 else 1
theorem cntU_le (on : Nat → Bool) : ∀ n, cntU n on ≤ n
  | 0 => Nat.le_refl _
  | n + 1 => by have := cntU_le on n; unfold cntU; split <;> omega
theorem cntU_mono {on on' : Nat → Bool} (h : ∀ y, on y = true → on' y = true) : ∀ n, cntU n on' ≤ cntU n on
  | 0 => Nat.le_refl _
  | n + 1 => by
    have := cntU_mono h n
    have h2 := h n
    unfold cntU
    split
    · split <;> omega
    · split
      · rename_i q1 q2; exact absurd (h2 q2) q1
      · omega
theorem cntU_same {on on' : Nat → Bool} : ∀ n, (∀ y, y < n → on y = on' y) → cntU n on = cntU n on'
  | 0, _ => rfl
  | n + 1, h => by unfold cntU; rw [cntU_same n fun y hy => h y (by omega), h n (by omega)]
theorem cntU_mark {on : Nat → Bool} {c : Nat} (ho : on c = false) : ∀ n, c < n → cntU n (mark on c) + 1 = cntU n on
  | 0, h => absurd h (by omega)
  | n + 1, h => by
    unfold cntU
    by_cases q : c = n
    · subst q
      rw [cntU_same (on := mark on c) (on' := on) c fun y hy => by unfold mark; rw [if_neg (by omega)], ho]
      simp [mark]
    · have := cntU_mark ho n (by omega)
      have e : mark on c n = on n := by unfold mark; rw [if_neg (fun e => q e.symm)]
      rw [e]; omega
/-! ### the search -/
theorem cst_cons (c : Nat) (p : List Nat) : cst (c :: p) = (c : Int) :: cst p := rfl
theorem dfs_eq {n : Nat} (h8 : n ≤ 8) {kn of : List S_api_Offer} {S W : Nat → Nat → Int} (hS : ∀ x y, 0 ≤ S x y ∧ S x y ≤ 1099511627776) (hW : ∀ x y, x < n → y < n → 0 ≤ W x y ∧ W x y ≤ 1099511627776) {b : Nat} (hb : b < n) :
    ∀ (fuel x : Nat) (on : Vector Bool 8) (out : List Int), x < n → cntU n (vb on) < fuel → out.length + cntU n (vb on) ≤ 100 →
      ∃ r on' p, M.f115 fuel (x : Int) (b : Int) ((n : Int), kn, of) on (mat n S) (mat n W) out = some (r, on', out ++ cst p) ∧ DfsR n S W b x (vb on) r (vb on') p
  | 0, x, on, out, _, h, _ => absurd h (Nat.not_lt_zero _)
  | fuel + 1, x, on, out, hx, hf, hl => by
    unfold M.f115
    by_cases e : x = b
    · subst e
      rw [if_pos (by simp)]
      exact ⟨true, on, [], by simp [cst], fun _ h => h, fun _ => ⟨rfl, List.nodup_nil, fun y hy => (by cases hy)⟩, fun h => by cases h⟩
    · rw [if_neg (by simp; omega)]
      obtain ⟨o, ho, hP⟩ := forM_inv (N := n) (s := (on, out)) (f := fun i_1 s_3 =>
          (idxA s_3.1 i_1) >>= fun v_8 =>
          (guardO (!v_8) (idx (mat n S) (x : Int))) >>= fun v_10 =>
          (guardO (!v_8) (idx v_10 i_1)) >>= fun v_12 =>
          (guardO (!(v_8 || (decide (1099511627776 ≤ v_12)))) (idx (mat n S) (x : Int))) >>= fun v_14 =>
          (guardO (!(v_8 || (decide (1099511627776 ≤ v_12)))) (idx v_14 i_1)) >>= fun v_16 =>
          (guardO (!(v_8 || (decide (1099511627776 ≤ v_12)))) (idx (mat n W) i_1)) >>= fun v_18 =>
          (guardO (!(v_8 || (decide (1099511627776 ≤ v_12)))) (idx v_18 (b : Int))) >>= fun v_20 =>
          (guardO (!(v_8 || (decide (1099511627776 ≤ v_12)))) (idx (mat n W) (x : Int))) >>= fun v_22 =>
          (guardO (!(v_8 || (decide (1099511627776 ≤ v_12)))) (idx v_22 (b : Int))) >>= fun v_24 =>
          (if ((v_8 || (decide (1099511627776 ≤ v_12))) || ((wr (v_16 + v_20)) != v_24)) = true then (
          some (.again (s_3.1, s_3.2)))
          else (
          (app s_3.2 ([i_1] : List Int)) >>= fun z_26 =>
          (idxA s_3.1 i_1) >>= fun v_29 =>
          (setA s_3.1 i_1 true) >>= fun z_31 =>
          (M.f115 fuel i_1 (b : Int) ((n : Int), kn, of) z_31 (mat n S) (mat n W) z_26) >>= fun z_33 =>
          (if z_33.1 = true then (
          some (.leave (true, z_33.2.1, z_33.2.2)))
          else (
          (cut z_33.2.2 (wr ((z_33.2.2.length : Int) - 1))) >>= fun z_36 =>
          some (.again (z_33.2.1, z_36)))))))
        (fun j st => ∃ on', st = (on', out) ∧ DfsL n S W b x j (vb on) (vb on'))
        (fun ρ : Bool × Vector Bool 8 × List Int => ∃ on2 p, ρ = (true, on2, out ++ cst p) ∧ DfsR n S W b x (vb on) true (vb on2) p) (by omega) ⟨on, rfl, DfsL.nil e⟩ (fun j st hj hI => by
          obtain ⟨on', rfl, hL⟩ := hI
          have hbW := hW x b hx hb
          have hjW := hW j b hj hb
          have hjS := hS x j
          have hcm := cntU_mono hL.up n
          simp only [Option.bind_eq_bind, idxA_vb (show j < 8 by omega), Option.bind_some, idx_mat hx, idx_mat hj, idx_row hj, idx_row hb]
          by_cases q1 : vb on' j = true
          · rw [q1]
            simp only [Bool.not_true, Bool.true_or, guardO, Option.bind_some, idx_row hj, idx_row hb]
            rw [if_pos trivial]
            exact ⟨_, rfl, on', rfl, hL.skip (.inl q1)⟩
          · have q1' : vb on' j = false := by simpa using q1
            rw [q1']
            simp only [Bool.not_false, Bool.false_or, guardO, Option.bind_some, idx_row hj, idx_row hb]
            by_cases q2 : 1099511627776 ≤ S x j
            · rw [decide_eq_true q2]
              simp only [Bool.not_true, Bool.true_or, guardO, Option.bind_some, idx_row hj, idx_row hb]
              rw [if_pos trivial]
              exact ⟨_, rfl, on', rfl, hL.skip (.inr fun ht => by have := ht.1; omega)⟩
            · rw [decide_eq_false q2]
              simp only [Bool.not_false, Bool.false_or, guardO, Option.bind_some, idx_row hj, idx_row hb]
              rw [wr_id (by omega) (by omega)]
              by_cases q3 : S x j + W j b = W x b
              · rw [if_neg (by simpa using q3)]
                have ht : Tight S W b x j := ⟨by omega, q3⟩
                obtain ⟨on1, hs1, hs2⟩ := setA_vb (v := on') (show j < 8 by omega)
                have hc := cntU_mark q1' n hj
                rw [app_one (by omega), hs1]
                simp only [Option.bind_some]
                obtain ⟨r, on2, p, k1, k2⟩ := dfs_eq h8 (kn := kn) (of := of) hS hW hb fuel j on1 (out ++ [(j : Int)]) hj (by rw [hs2]; omega) (by rw [hs2, List.length_append]; simp; omega)
                rw [k1]
                simp only [Option.bind_some]
                rw [hs2] at k2
                cases r with
                | true =>
                  rw [if_pos rfl]
                  exact ⟨_, rfl, on2, j :: p, by rw [cst_cons]; simp, DfsL.found hj hL q1' ht k2⟩
                | false =>
                  rw [if_neg (by simp)]
                  obtain ⟨rfl, _⟩ := k2.no rfl
                  have e1 : cst [] = [] := rfl
                  rw [e1, List.append_nil, List.length_append]
                  have e2 : cut (out ++ [(j : Int)]) (wr (((out.length + [(j : Int)].length : Nat) : Int) - 1)) = some out := by
                    simp only [List.length_cons, List.length_nil]
                    rw [wr_id (by omega) (by omega), show (((out.length + (0 + 1) : Nat) : Int) - 1) = (out.length : Int) from by omega]
                    unfold cut
                    rw [if_pos (by simp), Int.toNat_natCast, List.take_left]
                  rw [e2]
                  exact ⟨_, rfl, on2, rfl, DfsL.deep hj hL k2⟩
              · rw [if_pos (by simpa using q3)]
                exact ⟨_, rfl, on', rfl, hL.skip (.inr fun ht => q3 ht.2)⟩)
      cases o with
      | again st =>
        obtain ⟨on', rfl, hL⟩ := hP
        exact ⟨false, on', [], bnd ho (by rw [show cst [] = [] from rfl, List.append_nil]; rfl), hL.done⟩
      | leave ρ =>
        obtain ⟨on2, p, rfl, hd⟩ := hP
        exact ⟨true, on2, p, bnd ho rfl, hd⟩
/-! ### the way that is found is accepted -/
theorem psum_take {S : Nat → Nat → Int} : ∀ (p : List Nat) (a j x c : Nat), (a :: p)[j]? = some x → p[j]? = some c → psum S a (p.take (j + 1)) = psum S a (p.take j) + S x c
  | [], a, j, x, c, _, h => by cases h
  | d :: p, a, 0, x, c, h1, h2 => by simp at h1 h2; subst h1; subst h2; simp [psum]
  | d :: p, a, j + 1, x, c, h1, h2 => by
    simp only [List.getElem?_cons_succ] at h1 h2
    have := psum_take (S := S) p d j x c h1 h2
    simp only [List.take_succ_cons, psum]
    omega
theorem pAt_cst {l : List Nat} {j x : Nat} (h : l[j]? = some x) : pAt (cst l) j = (x : Int) := by
  unfold pAt cst
  rw [List.getElem?_map, h]; rfl
theorem path_ok {n : Nat} {S W : Nat → Nat → Int} {a b : Nat} (hn : n ≤ 8) (h0 : W b b = 0) (ha : a < n) {p : List Nat} (hp : TPath n S W b a p) (hl : p.length < n) (hlt : ∀ y ∈ p, y < n) : cpR n S a b (W a b) (cst (a :: p)) = 0 := by
  have hall : ∀ y ∈ a :: p, y < n := fun y hy => by
    rcases List.mem_cons.1 hy with e | e
    · subst e; exact ha
    · exact hlt y e
  have hlen : (cst (a :: p)).length = p.length + 1 := by rw [cst_length]; rfl
  have hget : ∀ j, j < p.length + 1 → ∃ x, (a :: p)[j]? = some x ∧ x < n := fun j hj => by
    have h : j < (a :: p).length := by simpa using hj
    exact ⟨(a :: p)[j], List.getElem?_eq_getElem h, hall _ (List.getElem_mem h)⟩
  have hst : ∀ j x y, (a :: p)[j]? = some x → p[j]? = some y → stI n S (pAt (cst (a :: p)) j) (pAt (cst (a :: p)) (j + 1)) = S x y := fun j x y h1 h2 => by
    have h3 : (a :: p)[j + 1]? = some y := by rw [List.getElem?_cons_succ]; exact h2
    rw [pAt_cst h1, pAt_cst h3]
    have q1 := hall x (List.mem_of_getElem? h1)
    have q2 := hall y (List.mem_of_getElem? h3)
    unfold stI
    rw [if_pos (by omega), Int.toNat_natCast, Int.toNat_natCast]
  unfold cpR
  refine if_pos ⟨?_, ?_, ?_⟩
  · unfold ends
    rw [hlen]
    have e1 : pAt (cst (a :: p)) 0 = (a : Int) := pAt_cst rfl
    have e2 : pAt (cst (a :: p)) p.length = (b : Int) := by
      have := hp.last
      refine pAt_cst ?_
      rw [List.getLast_eq_getElem] at this
      rw [← this]
      have h : p.length < (a :: p).length := by simp
      rw [List.getElem?_eq_getElem h]
      congr 1
    rw [Nat.add_sub_cancel, e1, e2]
    simp
    omega
  · intro i h1 h2
    rw [hlen] at h2
    obtain ⟨j, rfl⟩ : ∃ j, i = j + 1 := ⟨i - 1, by omega⟩
    rw [Nat.add_sub_cancel]
    obtain ⟨x, hx, _⟩ := hget j (by omega)
    have hj : j < p.length := by omega
    have hy := List.getElem?_eq_getElem hj
    rw [hst j x _ hx hy]
    exact (hp.far j x hx _ hy).2
  · rw [hlen]
    have key : ∀ j, j ≤ p.length → sumTo (stI n S) (cst (a :: p)) (j + 1) = psum S a (p.take j) := by
      intro j
      induction j with
      | zero => intro _; simp [sumTo, psum]
      | succ j ih =>
        intro hj
        obtain ⟨x, hx, _⟩ := hget j (by omega)
        have hy := List.getElem?_eq_getElem (show j < p.length by omega)
        have e : sumTo (stI n S) (cst (a :: p)) (j + 1 + 1) = sumTo (stI n S) (cst (a :: p)) (j + 1) + stI n S (pAt (cst (a :: p)) j) (pAt (cst (a :: p)) (j + 1)) := by
          show (if j + 1 = 0 then 0 else _) = _
          rw [if_neg (by omega)]; rfl
        rw [e, ih (by omega), hst j x _ hx hy, psum_take p a j x _ hx hy]
    rw [key p.length (Nat.le_refl _), List.take_length, hp.sum h0]
    exact Int.le_refl _
section
variable {n : Nat} {kn of : List S_api_Offer} (hm : Ok n kn of)
include hm
theorem Ok.f66 {s a b : Nat} (hs : s < 2 ^ of.length) (ha : a < n) (hb : b < n) (hc : codeQ ((n : Int), kn, of) (cst (sel of.length s)) [(a : Int), (b : Int)] [] = 0) :
    (1099511627776 ≤ WdS n kn of s a b → M.f66 1000 ((n : Int), kn, of) (cst (sel of.length s)) a b = some ([], 4)) ∧
    (WdS n kn of s a b < 1099511627776 → ∃ p, M.f66 1000 ((n : Int), kn, of) (cst (sel of.length s)) a b = some (p, 0) ∧ p.length ≤ 8 ∧ cpR n (Stp (csS kn of s)) a b (WdS n kn of s a b) p = 0) := by
  have h6 := hm.lo
  have h7 := sel_len of.length s
  have h8 := hm.n8
  have hcl := hm.cl s
  have start : M.f66 1000 ((n : Int), kn, of) (cst (sel of.length s)) a b = (if (decide (1099511627776 ≤ WdS n kn of s a b)) = true then some (([] : List Int), 4)
      else (idxA (#v[false, false, false, false, false, false, false, false] : Vector Bool 8) (a : Int)) >>= fun v_20 =>
        (setA (#v[false, false, false, false, false, false, false, false] : Vector Bool 8) (a : Int) true) >>= fun z_22 =>
        (M.f115 1000 (a : Int) (b : Int) ((n : Int), kn, of) z_22 (mat n (Stp (csS kn of s))) (mat n (WdS n kn of s)) ([(a : Int)] : List Int)) >>= fun z_25 =>
        some (z_25.2.2, 0)) := by
    unfold M.f66
    rw [f76_eqQ _ _ _ _ (by rw [cst_length]; omega) (by simp) (by simp)]
    simp only [Option.bind_eq_bind, Option.bind_some]
    rw [hc, if_neg (by simp), hm.set hs]
    simp only [Option.bind_some]
    rw [hm.f83 hs]
    simp only [Option.bind_some]
    rw [hm.f113 hs]
    simp only [Option.bind_some, idx_mat ha, idx_row hb]
  rw [start]
  refine ⟨fun h => by rw [if_pos (by simpa using h)], fun h => ?_⟩
  rw [if_neg (by simpa using h)]
  obtain ⟨z, hz1, hz2⟩ := setA_vb (v := (#v[false, false, false, false, false, false, false, false] : Vector Bool 8)) (show a < 8 by omega)
  have hv : vb (#v[false, false, false, false, false, false, false, false] : Vector Bool 8) = fun _ => false := by
    funext y
    unfold vb
    have : ∀ y, y < 8 ∨ 8 ≤ y := fun y => by omega
    rcases this y with q | q
    · have : y = 0 ∨ y = 1 ∨ y = 2 ∨ y = 3 ∨ y = 4 ∨ y = 5 ∨ y = 6 ∨ y = 7 := by omega
      rcases this with rfl | rfl | rfl | rfl | rfl | rfl | rfl | rfl <;> rfl
    · rw [List.getElem?_eq_none (by simpa using q)]; rfl
  rw [hv] at hz2
  have hcu := cntU_le (vb z) n
  obtain ⟨r, on', p, k1, k2⟩ := dfs_eq hm.n8 (kn := kn) (of := of) (S := Stp (csS kn of s)) (W := WdS n kn of s) (hm.st_range s) (fun x y hx hy => ⟨hcl.nonneg x y hx hy, hcl.far x y hx hy⟩) hb 1000 a z [(a : Int)] ha (by omega) (by simp; omega)
  rw [hz2] at k2
  obtain ⟨rfl, q1, q2, q3⟩ := dfs_finds hcl ha hb (show WdS n kn of s a b < Wh.far from h) k2
  refine ⟨cst (a :: p), ?_, by rw [cst_length]; simp; omega, path_ok hm.n8 (hcl.zero b hb) ha q1 q2 q3⟩
  rw [idxA_vb (by omega), hz1]
  simp only [Option.bind_eq_bind, Option.bind_some]
  rw [k1]
  rfl
end
theorem f66_err {m : S_api_Market} {l : List Int} {a b : Int} (hl : l.length ≤ 4096) (hc : codeQ m l [a, b] [] ≠ 0) : M.f66 1000 m l a b = some ([], codeQ m l [a, b] []) := by
  unfold M.f66
  refine bnd (f76_eqQ _ _ _ _ hl (by simp) (by simp)) ?_
  rw [if_pos (by simpa using hc)]
end Go.Proofs.Ytkbilbeaedocjaa
