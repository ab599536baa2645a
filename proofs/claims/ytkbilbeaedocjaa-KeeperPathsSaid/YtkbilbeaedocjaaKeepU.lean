/-
  What is proved: a search in depth along steps of least ways finds a way of the least width.
-/
import Derived.Test.YtkbilbeaedocjaaKeepK
namespace Go.Proofs.Ytkbilbeaedocjaa
open Go Go.Proofs.Ytkbilbeaedocjaa.Wh

/-- A step of a least way to b. -/
def Tight (S W : Nat → Nat → Int) (b x c : Nat) : Prop := S x c < 1099511627776 ∧ S x c + W c b = W x b
instance (S W : Nat → Nat → Int) (b x c : Nat) : Decidable (Tight S W b x c) := by unfold Tight; infer_instance
theorem Wh.Walk.first {n : Nat} {S : Nat → Nat → Int} {a : Nat} : ∀ {k b : Nat} {v : Int}, Walk n S a b (k + 1) v → ∃ x u, x < n ∧ S a x < Wh.far ∧ Walk n S x b k u ∧ v = S a x + u
  | 0, b, v, h => by
    obtain ⟨x, u, h1, h2, h3, h4⟩ := h.last
    obtain ⟨rfl, rfl⟩ := h1.zero
    exact ⟨b, 0, h4, h2, .nil h4, by omega⟩
  | k + 1, b, v, h => by
    obtain ⟨x, u, h1, h2, h3, h4⟩ := h.last
    obtain ⟨y, w, q1, q2, q3, q4⟩ := Walk.first h1
    exact ⟨y, w + S x b, q1, q2, .step q3 h4 h2, by omega⟩
theorem cl_next {n : Nat} {S W : Nat → Nat → Int} (h : Cl n S W) {x b k : Nat} (hw : Walk n S x b (k + 1) (W x b)) : ∃ c, c < n ∧ Tight S W b x c ∧ Walk n S c b k (W c b) := by
  obtain ⟨c, u, h1, h2, h3, h4⟩ := hw.first
  have e1 := h.walk h3
  have e2 := h.tri x c b hw.ends.1 h1 hw.ends.2
  have e3 := h.le x c hw.ends.1 h1
  have e : u = W c b := by omega
  subst e
  exact ⟨c, h1, ⟨h2, by omega⟩, h3⟩
/-- What is closed under such steps has b. -/
theorem cl_reach {n : Nat} {S W : Nat → Nat → Int} (h : Cl n S W) {b : Nat} {P : Nat → Prop} (hP : ∀ x c, P x → c < n → Tight S W b x c → P c) : ∀ k x, P x → Walk n S x b k (W x b) → P b
  | 0, x, hx, hw => by obtain ⟨rfl, _⟩ := hw.zero; exact hx
  | k + 1, x, hx, hw => by
    obtain ⟨c, h1, h2, h3⟩ := cl_next h hw
    exact cl_reach h hP k c (hP x c hx h1 h2) h3
/-- A way of such steps. -/
def TPath (n : Nat) (S W : Nat → Nat → Int) (b : Nat) : Nat → List Nat → Prop
  | x, [] => x = b
  | x, c :: r => c < n ∧ Tight S W b x c ∧ TPath n S W b c r
/-- What steps add up to. -/
def psum (S : Nat → Nat → Int) : Nat → List Nat → Int
  | _, [] => 0
  | x, c :: r => S x c + psum S c r
theorem TPath.sum {n : Nat} {S W : Nat → Nat → Int} {b : Nat} (h0 : W b b = 0) : ∀ {p : List Nat} {x : Nat}, TPath n S W b x p → psum S x p = W x b
  | [], x, h => by have h : x = b := h; subst h; exact h0.symm
  | c :: r, x, ⟨_, h2, h3⟩ => by
    have := TPath.sum h0 h3
    have := h2.2
    show S x c + psum S c r = _
    omega
theorem TPath.far {n : Nat} {S W : Nat → Nat → Int} {b : Nat} : ∀ {p : List Nat} {x : Nat}, TPath n S W b x p → ∀ (j y : Nat), (x :: p)[j]? = some y → ∀ z : Nat, p[j]? = some z → z < n ∧ S y z < 1099511627776
  | [], x, _, j, y, h1, z, h2 => by cases h2
  | c :: r, x, ⟨h1, h2, h3⟩, 0, y, e1, z, e2 => by simp at e1 e2; subst e1; subst e2; exact ⟨h1, h2.1⟩
  | c :: r, x, ⟨h1, h2, h3⟩, j + 1, y, e1, z, e2 => by
    simp only [List.getElem?_cons_succ] at e1 e2
    exact TPath.far h3 j y e1 z e2
theorem TPath.last {n : Nat} {S W : Nat → Nat → Int} {b : Nat} : ∀ {p : List Nat} {x : Nat}, TPath n S W b x p → (x :: p).getLast (by simp) = b
  | [], x, h => h
  | c :: r, x, ⟨_, _, h3⟩ => by rw [List.getLast_cons (by simp)]; exact TPath.last h3
/-- What a search from x leaves: marks, and the way that is found. -/
structure DfsR (n : Nat) (S W : Nat → Nat → Int) (b x : Nat) (on : Nat → Bool) (r : Bool) (on' : Nat → Bool) (p : List Nat) : Prop where
  up : ∀ y, on y = true → on' y = true
  ok : r = true → TPath n S W b x p ∧ p.Nodup ∧ ∀ y ∈ p, on y = false ∧ y < n
  no : r = false → p = [] ∧ x ≠ b ∧ (∀ c, c < n → Tight S W b x c → on' c = true) ∧ ∀ y, on' y = true → on y = false → y < n ∧ y ≠ b ∧ ∀ c, c < n → Tight S W b y c → on' c = true
/-- What the search through the first j next clocks leaves, none of which leads to b. -/
structure DfsL (n : Nat) (S W : Nat → Nat → Int) (b x j : Nat) (on on' : Nat → Bool) : Prop where
  up : ∀ y, on y = true → on' y = true
  ne : x ≠ b
  all : ∀ c, c < j → Tight S W b x c → on' c = true
  new : ∀ y, on' y = true → on y = false → y < n ∧ y ≠ b ∧ ∀ c, c < n → Tight S W b y c → on' c = true
theorem DfsL.nil {n : Nat} {S W : Nat → Nat → Int} {b x : Nat} {on : Nat → Bool} (h : x ≠ b) : DfsL n S W b x 0 on on :=
  ⟨fun _ h => h, h, fun c h => absurd h (Nat.not_lt_zero _), fun y h1 h2 => by rw [h1] at h2; cases h2⟩
theorem DfsL.skip {n : Nat} {S W : Nat → Nat → Int} {b x j : Nat} {on on' : Nat → Bool} (h : DfsL n S W b x j on on') (hc : on' j = true ∨ ¬ Tight S W b x j) : DfsL n S W b x (j + 1) on on' :=
  ⟨h.up, h.ne, fun c hc' ht => by
    by_cases q : c = j
    · subst q
      rcases hc with e | e
      · exact e
      · exact absurd ht e
    · exact h.all c (by omega) ht, h.new⟩
def mark (on : Nat → Bool) (c : Nat) : Nat → Bool := fun y => if y = c then true else on y
theorem mark_up {on : Nat → Bool} {c y : Nat} (h : on y = true) : mark on c y = true := by
  unfold mark
  split
  · rfl
  · exact h
theorem DfsL.deep {n : Nat} {S W : Nat → Nat → Int} {b x j : Nat} {on on' on2 : Nat → Bool} {p : List Nat} (hj : j < n) (h : DfsL n S W b x j on on') (hd : DfsR n S W b j (mark on' j) false on2 p) : DfsL n S W b x (j + 1) on on2 := by
  obtain ⟨_, h2, h3, h4⟩ := hd.no rfl
  have up : ∀ y, on' y = true → on2 y = true := fun y hy => hd.up y (mark_up hy)
  have hj2 : on2 j = true := hd.up j (by simp [mark])
  refine ⟨fun y hy => up y (h.up y hy), h.ne, fun c hc ht => ?_, fun y h5 h6 => ?_⟩
  · by_cases q : c = j
    · subst q; exact hj2
    · exact up c (h.all c (by omega) ht)
  · by_cases q : y = j
    · subst q; exact ⟨hj, h2, h3⟩
    · by_cases q2 : on' y = true
      · obtain ⟨k1, k2, k3⟩ := h.new y q2 h6
        exact ⟨k1, k2, fun c hc ht => up c (k3 c hc ht)⟩
      · exact h4 y h5 (by unfold mark; rw [if_neg q]; simpa using q2)
theorem DfsL.done {n : Nat} {S W : Nat → Nat → Int} {b x : Nat} {on on' : Nat → Bool} (h : DfsL n S W b x n on on') : DfsR n S W b x on false on' [] :=
  ⟨h.up, fun e => (by cases e), fun _ => ⟨rfl, h.ne, h.all, h.new⟩⟩
theorem DfsL.found {n : Nat} {S W : Nat → Nat → Int} {b x j : Nat} {on on' on2 : Nat → Bool} {p : List Nat} (hj : j < n) (h : DfsL n S W b x j on on') (ho : on' j = false) (ht : Tight S W b x j) (hd : DfsR n S W b j (mark on' j) true on2 p) : DfsR n S W b x on true on2 (j :: p) := by
  obtain ⟨h1, h2, h3⟩ := hd.ok rfl
  have hon : on j = false := by
    cases q : on j with
    | false => rfl
    | true => rw [h.up j q] at ho; cases ho
  refine ⟨fun y hy => hd.up y (mark_up (h.up y hy)), fun _ => ⟨⟨hj, ht, h1⟩, List.nodup_cons.2 ⟨fun hm => ?_, h2⟩, fun y hy => ?_⟩, fun e => by cases e⟩
  · have := (h3 j hm).1
    simp [mark] at this
  · rcases List.mem_cons.1 hy with e | e
    · subst e; exact ⟨hon, hj⟩
    · have hy := h3 y e
      refine ⟨?_, hy.2⟩
      cases q : on y with
      | false => rfl
      | true =>
        have := hy.1
        unfold mark at this
        split at this
        · cases this
        · rw [h.up y q] at this; cases this
/-- From the beginning the search finds b. -/
theorem dfs_finds {n : Nat} {S W : Nat → Nat → Int} (h : Cl n S W) {a b : Nat} (ha : a < n) (hb : b < n) (hW : W a b < Wh.far) {r : Bool} {on' : Nat → Bool} {p : List Nat} (hd : DfsR n S W b a (mark (fun _ => false) a) r on' p) : r = true ∧ TPath n S W b a p ∧ p.length < n ∧ ∀ y ∈ p, y < n := by
  cases r with
  | true =>
    obtain ⟨h1, h2, h3⟩ := hd.ok rfl
    refine ⟨rfl, h1, ?_, fun y hy => (h3 y hy).2⟩
    have := nodup_le n (a :: p) (List.nodup_cons.2 ⟨fun hm => by have := (h3 a hm).1; simp [mark] at this, h2⟩) (fun x hx => by
      rcases List.mem_cons.1 hx with e | e
      · subst e; exact ha
      · exact (h3 x e).2)
    simp at this
    omega
  | false =>
    exfalso
    obtain ⟨_, h2, h3, h4⟩ := hd.no rfl
    obtain ⟨k, hw⟩ := h.att a b ha hb hW
    have hP : ∀ x c, on' x = true → c < n → Tight S W b x c → on' c = true := fun x c hx hc ht => by
      by_cases q : x = a
      · subst q; exact h3 c hc ht
      · exact (h4 x hx (by simp [mark, q])).2.2 c hc ht
    have hbt := cl_reach h hP k a (hd.up a (by simp [mark])) hw
    exact (h4 b hbt (by simp [mark]; exact fun e => h2 e.symm)).2.1 rfl
end Go.Proofs.Ytkbilbeaedocjaa
