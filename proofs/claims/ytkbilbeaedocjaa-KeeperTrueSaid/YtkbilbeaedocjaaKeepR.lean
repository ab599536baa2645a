/-
  What is proved: tables of how much a clock can be ahead of another one: phases of their closure, clashes, and what a potential tells.
  the tables that spans lay, both ways round, and what they tell of widths.
  what Known and Shown answer on valid markets of few offers.
  what the specification's Known and the code's Shown answer on valid markets of few offers.
-/
import Derived.Test.YtkbilbeaedocjaaKeepG
import Derived.Test.YtkbilbeaedocjaaKeepI
import Derived.Test.YtkbilbeaedocjaaModelI
namespace Go.Proofs.Ytkbilbeaedocjaa
open Go Go.Proofs.Ytkbilbeaedocjaa.Wh
abbrev Tb := Nat → Nat → Int
def hfar (x y z : Int) : Int := if y < 1099511627776 ∧ z < 1099511627776 then imin x (wr (y + z)) else x
theorem imin_eq (a b : Int) : imin a b = if b < a then b else a := rfl
theorem hfar_le (x y z : Int) : hfar x y z ≤ x := by
  unfold hfar
  split
  · rw [imin_eq]; split <;> omega
  · omega
structure Fine (n : Nat) (B : Int) (F : Tb) : Prop where
  zero : ∀ a, a < n → F a a = 0
  up : ∀ a b, a < n → b < n → F a b = 1099511627776 ∨ F a b ≤ B
  lo : ∀ a b, a < n → b < n → -B ≤ F a b
  sym : ∀ a b, a < n → b < n → F a b < 1099511627776 → F b a < 1099511627776
theorem hfar_val {B x y z : Int} (hB : 2 * B < 1099511627776) (hy : -B ≤ y) (hy' : y = 1099511627776 ∨ y ≤ B) (hz : -B ≤ z) (hz' : z = 1099511627776 ∨ z ≤ B) :
    hfar x y z = if y < 1099511627776 ∧ z < 1099511627776 ∧ y + z < x then y + z else x := by
  unfold hfar
  by_cases q : y < 1099511627776 ∧ z < 1099511627776
  · rw [if_pos q, wr_id (by omega) (by omega), imin_eq]
    by_cases r : y + z < x
    · rw [if_pos r, if_pos ⟨q.1, q.2, r⟩]
    · rw [if_neg r, if_neg (by omega)]
  · rw [if_neg q, if_neg (by omega)]
theorem Fine.val {n c : Nat} {B : Int} {F : Tb} (h : Fine n B F) (hB : 2 * B < 1099511627776) (hc : c < n) {x y : Nat} (hx : x < n) (hy : y < n) :
    phs hfar n c F x y = if F x c < 1099511627776 ∧ F c y < 1099511627776 ∧ F x c + F c y < F x y then F x c + F c y else F x y := by
  have e : phs hfar n c F = phsT hfar n c n F := phs_eq hc
    (fun y hy => by rw [hfar_val hB (h.lo c c hc hc) (h.up c c hc hc) (h.lo c y hc hy) (h.up c y hc hy), h.zero c hc, if_neg (by omega)])
    (fun x hx => by rw [hfar_val hB (h.lo x c hx hc) (h.up x c hx hc) (h.lo c c hc hc) (h.up c c hc hc), h.zero c hc, if_neg (by omega)]) n (Nat.le_refl _)
  rw [e]
  unfold phsT
  rw [if_pos ⟨hx, hy⟩, hfar_val hB (h.lo x c hx hc) (h.up x c hx hc) (h.lo c y hc hy) (h.up c y hc hy)]
theorem Fine.next {n c : Nat} {B : Int} {F : Tb} (h : Fine n B F) (h0 : 0 ≤ B) (hB : 2 * B < 1099511627776) (hc : c < n) (hd : ∀ x, x < n → 0 ≤ phs hfar n c F x x) : Fine n (2 * B) (phs hfar n c F) := by
  refine ⟨fun a ha => ?_, fun a b ha hb => ?_, fun a b ha hb => ?_, fun a b ha hb => ?_⟩
  · have h1 := hd a ha
    rw [h.val hB hc ha ha] at h1 ⊢
    have := h.zero a ha
    split
    · rename_i q; rw [if_pos q] at h1; omega
    · exact this
  · rw [h.val hB hc ha hb]
    have := h.up a b ha hb; have := h.up a c ha hc; have := h.up c b hc hb
    split <;> omega
  · rw [h.val hB hc ha hb]
    have := h.lo a b ha hb; have := h.lo a c ha hc; have := h.lo c b hc hb
    split <;> omega
  · rw [h.val hB hc ha hb, h.val hB hc hb ha]
    have := h.up b c hb hc; have := h.up c a hc ha
    have s1 := h.sym a b ha hb; have s2 := h.sym a c ha hc; have s3 := h.sym c b hc hb
    intro hlt
    split at hlt <;> split <;> omega
theorem Fine.tr {n : Nat} {B : Int} {F G : Tb} (h : Fine n B F) (hG : ∀ x y, x < n → y < n → G x y = F y x) : Fine n B G := by
  refine ⟨fun a ha => ?_, fun a b ha hb => ?_, fun a b ha hb => ?_, fun a b ha hb => ?_⟩
  · rw [hG a a ha ha]; exact h.zero a ha
  · rw [hG a b ha hb]; exact h.up b a hb ha
  · rw [hG a b ha hb]; exact h.lo b a hb ha
  · rw [hG a b ha hb, hG b a hb ha]; exact h.sym b a hb ha
theorem Fine.tr_next {n c : Nat} {B : Int} {F G : Tb} (h : Fine n B F) (hG : ∀ x y, x < n → y < n → G x y = F y x) (hB : 2 * B < 1099511627776) (hc : c < n) {x y : Nat} (hx : x < n) (hy : y < n) : phs hfar n c G x y = phs hfar n c F y x := by
  rw [(h.tr hG).val hB hc hx hy, h.val hB hc hy hx, hG x c hx hc, hG c y hc hy, hG x y hx hy]
  by_cases q : F c x < 1099511627776 ∧ F y c < 1099511627776 ∧ F c x + F y c < F y x
  · rw [if_pos q, if_pos (by omega)]; omega
  · rw [if_neg q, if_neg (by omega)]
theorem itr_le {g : Nat → Tb → Tb} (hg : ∀ j F x y, g j F x y ≤ F x y) : ∀ k F x y, itr g k F x y ≤ F x y
  | 0, F, x, y => Int.le_refl _
  | k + 1, F, x, y => Int.le_trans (hg k _ x y) (itr_le hg k F x y)
theorem itr_le_from {g : Nat → Tb → Tb} (hg : ∀ j F x y, g j F x y ≤ F x y) (F : Tb) (x y c : Nat) : ∀ d, itr g (c + d) F x y ≤ itr g c F x y
  | 0 => Int.le_refl _
  | d + 1 => Int.le_trans (hg (c + d) _ x y) (itr_le_from hg F x y c d)
theorem phs_le (n c : Nat) (F : Tb) (x y : Nat) : phs hfar n c F x y ≤ F x y := by
  unfold phs
  refine itr_le (fun a F x y => ?_) n F x y
  unfold rowp
  refine itr_le (fun b F x y => ?_) n F x y
  unfold stp updM
  split
  · rename_i q; rw [q.1, q.2]; exact hfar_le _ _ _
  · exact Int.le_refl _
/-- The table behind c phases. -/
def clF (n : Nat) (F : Tb) (c : Nat) : Tb := itr (fun c F => phs hfar n c F) c F
theorem clF_succ (n : Nat) (F : Tb) (c : Nat) : clF n F (c + 1) = phs hfar n c (clF n F c) := rfl
theorem clF_le (n : Nat) (F : Tb) {c d : Nat} (h : c ≤ d) (x y : Nat) : clF n F d x y ≤ clF n F c x y := by
  have := itr_le_from (g := fun c F => phs hfar n c F) (fun j F x y => phs_le n j F x y) F x y c (d - c)
  rwa [Nat.add_sub_cancel' h] at this
def dbl : Nat → Int
  | 0 => 1074790400
  | c + 1 => 2 * dbl c
theorem dbl_ok {c : Nat} (h : c < 8) : 0 ≤ dbl c ∧ 2 * dbl c < 1099511627776 := by
  have : c = 0 ∨ c = 1 ∨ c = 2 ∨ c = 3 ∨ c = 4 ∨ c = 5 ∨ c = 6 ∨ c = 7 := by omega
  rcases this with rfl | rfl | rfl | rfl | rfl | rfl | rfl | rfl <;> decide
def noClash (n : Nat) (F : Tb) (c : Nat) : Bool := (List.range n).all fun x => !decide (clF n F c x x < 0)
theorem noClash_iff {n : Nat} {F : Tb} {c : Nat} : noClash n F c = true ↔ ∀ x, x < n → 0 ≤ clF n F c x x := by
  unfold noClash
  rw [List.all_eq_true]
  exact ⟨fun h x hx => by have := h x (List.mem_range.2 hx); simpa using this, fun h x hx => by have := h x (List.mem_range.1 hx); simpa using this⟩
theorem both {n : Nat} (hn : n ≤ 8) {R T : Tb} (hR : Fine n 1074790400 R) (hT : ∀ x y, x < n → y < n → T x y = R y x) :
    ∀ c, c ≤ n → (∀ j, j < c → noClash n R (j + 1) = true) → Fine n (dbl c) (clF n R c) ∧ ∀ x y, x < n → y < n → clF n T c x y = clF n R c y x
  | 0, _, _ => ⟨hR, hT⟩
  | c + 1, hc, hj => by
    obtain ⟨h1, h2⟩ := both hn hR hT c (by omega) fun j h => hj j (by omega)
    obtain ⟨b1, b2⟩ := dbl_ok (c := c) (by omega)
    refine ⟨h1.next b1 b2 (by omega) (noClash_iff.1 (hj c (by omega))), fun x y hx hy => ?_⟩
    exact h1.tr_next h2 b2 (by omega) hx hy
theorem first_false {p : Nat → Bool} : ∀ {n : Nat}, (List.range n).all p = false → ∃ c, c < n ∧ p c = false ∧ ∀ j, j < c → p j = true
  | 0, h => by simp at h
  | n + 1, h => by
    by_cases q : (List.range n).all p = true
    · refine ⟨n, by omega, ?_, fun j hj => (List.all_eq_true.1 q) j (List.mem_range.2 hj)⟩
      rw [List.range_succ, List.all_append, q] at h
      simpa using h
    · obtain ⟨c, h1, h2, h3⟩ := first_false (p := p) (n := n) (by simpa using q)
      exact ⟨c, by omega, h2, h3⟩
/-- Both ways to look for a clash find it, and the answers are the same. -/
theorem clash_same {n : Nat} (hn : n ≤ 8) {R T : Tb} (hR : Fine n 1074790400 R) (hT : ∀ x y, x < n → y < n → T x y = R y x) :
    ((List.range n).all fun c => noClash n R (c + 1)) = noClash n T n ∧ (noClash n T n = true → Fine n (dbl n) (clF n R n) ∧ ∀ x y, x < n → y < n → clF n T n x y = clF n R n y x) := by
  by_cases q : ((List.range n).all fun c => noClash n R (c + 1)) = true
  · have hall : ∀ j, j < n → noClash n R (j + 1) = true := fun j hj => (List.all_eq_true.1 q) j (List.mem_range.2 hj)
    have hb := both hn hR hT n (Nat.le_refl _) hall
    refine ⟨?_, fun _ => hb⟩
    rw [q]
    symm
    rw [noClash_iff]
    intro x hx
    rw [hb.2 x x hx hx, hb.1.zero x hx]; exact Int.le_refl _
  · rw [Bool.not_eq_true] at q
    obtain ⟨c, hc, h2, h3⟩ := first_false q
    obtain ⟨g1, g2⟩ := both hn hR hT c (by omega) h3
    obtain ⟨b1, b2⟩ := dbl_ok (c := c) (by omega)
    have hx : ∃ x, x < n ∧ clF n R (c + 1) x x < 0 := by
      unfold noClash at h2
      rw [List.all_eq_false] at h2
      obtain ⟨x, hx, hq⟩ := h2
      exact ⟨x, List.mem_range.1 hx, by simpa using hq⟩
    obtain ⟨x, hx, hlt⟩ := hx
    have hT2 : clF n T n x x < 0 := by
      refine Int.lt_of_le_of_lt (clF_le n T (show c + 1 ≤ n by omega) x x) ?_
      rw [clF_succ, g1.tr_next g2 b2 hc hx hx]
      exact hlt
    have : noClash n T n = false := by
      rw [← Bool.not_eq_true, noClash_iff]
      intro h
      have := h x hx
      omega
    rw [q, this]
    exact ⟨rfl, fun h => by cases h⟩

/-! ### potentials, and widths -/
def Feas (n : Nat) (q : Nat → Int) (F : Tb) : Prop := ∀ x y, x < n → y < n → q y - q x ≤ F x y
theorem Feas.next {n c : Nat} {B : Int} {F : Tb} {q : Nat → Int} (hq : Feas n q F) (h : Fine n B F) (hB : 2 * B < 1099511627776) (hc : c < n) : Feas n q (phs hfar n c F) := by
  intro x y hx hy
  rw [h.val hB hc hx hy]
  have := hq x y hx hy; have := hq x c hx hc; have := hq c y hc hy
  split <;> omega
theorem half_val {n c : Nat} {S F : Tb} (hc : c < n) (h : Half n c S F) {a b : Nat} (ha : a < n) (hb : b < n) : phs hmin n c F a b = if F a c + F c b < F a b then F a c + F c b else F a b := by
  have e : phs hmin n c F = phsT hmin n c n F := phs_eq hc (fun y hy => by rw [hmin_eq (h.nonneg _ _ hc hc) (h.far _ _ hc hc) (h.nonneg _ _ hc hy) (h.far _ _ hc hy), h.zero c hc, if_neg (by omega)])
    (fun x hx => by rw [hmin_eq (h.nonneg _ _ hx hc) (h.far _ _ hx hc) (h.nonneg _ _ hc hc) (h.far _ _ hc hc), h.zero c hc, if_neg (by omega)]) n (Nat.le_refl _)
  rw [e]
  unfold phsT
  rw [if_pos ⟨ha, hb⟩, hmin_eq (h.nonneg _ _ ha hc) (h.far _ _ ha hc) (h.nonneg _ _ hc hb) (h.far _ _ hc hb)]
def Under (n : Nat) (W F : Tb) : Prop := ∀ x y, x < n → y < n → W x y < 1099511627776 → F x y < 1099511627776 ∧ F y x < 1099511627776 ∧ F x y + F y x ≤ W x y
theorem Under.next {n c : Nat} {B : Int} {S W F : Tb} (hu : Under n W F) (h : Fine n B F) (hB : 2 * B < 1099511627776) (hc : c < n) (hw : Half n c S W) : Under n (phs hmin n c W) (phs hfar n c F) := by
  intro x y hx hy
  rw [half_val hc hw hx hy, h.val hB hc hx hy, h.val hB hc hy hx]
  have n1 := hw.nonneg x c hx hc; have n2 := hw.nonneg c y hc hy
  have u1 := hu x y hx hy; have u2 := hu x c hx hc; have u3 := hu c y hc hy
  have := h.up x c hx hc; have := h.up c y hc hy; have := h.up y c hy hc; have := h.up c x hc hx
  split
  · rename_i q
    intro hlt
    have u2 := u2 (by omega)
    have u3 := u3 (by omega)
    split <;> split <;> omega
  · intro hlt
    have u1 := u1 hlt
    split <;> split <;> omega
theorem spans_hold {n : Nat} (hn : n ≤ 8) {S W R : Tb} {q : Nat → Int} (hW : Half n 0 S W) (hR : Fine n 1074790400 R) (hu : Under n W R) (h0 : Feas n (fun _ => 0) R) (hq : Feas n q R) :
    ∀ c, c ≤ n → (∀ j, j < c → noClash n R (j + 1) = true) ∧ Fine n (dbl c) (clF n R c) ∧ Under n (itr (fun c F => phs hmin n c F) c W) (clF n R c) ∧ Feas n (fun _ => 0) (clF n R c) ∧ Feas n q (clF n R c)
  | 0, _ => ⟨fun j hj => absurd hj (by omega), hR, hu, h0, hq⟩
  | c + 1, hc => by
    obtain ⟨g1, g2, g3, g4, g5⟩ := spans_hold hn hW hR hu h0 hq c (by omega)
    obtain ⟨b1, b2⟩ := dbl_ok (c := c) (by omega)
    have k4 := g4.next g2 b2 (c := c) (by omega)
    have hd : ∀ x, x < n → 0 ≤ phs hfar n c (clF n R c) x x := fun x hx => by have := k4 x x hx hx; simpa using this
    refine ⟨fun j hj => ?_, g2.next b1 b2 (by omega) hd, g3.next g2 b2 (by omega) (hW.all c (by omega)), k4, g5.next g2 b2 (by omega)⟩
    by_cases e : j = c
    · subst e; exact noClash_iff.2 hd
    · exact g1 j (by omega)
end Go.Proofs.Ytkbilbeaedocjaa

namespace Go.Proofs.Ytkbilbeaedocjaa
open Go Go.Proofs.Ytkbilbeaedocjaa.Wh
abbrev ES := S_api_Offer × S_api_Span
structure OkE (n : Nat) (e : ES) : Prop where
  a : ∃ k : Nat, e.1.1 = (k : Int) ∧ k < n
  b : ∃ k : Nat, e.1.2.1 = (k : Int) ∧ k < n
  ne : e.1.1 ≠ e.1.2.1
  w0 : 0 ≤ e.1.2.2.2
  w1 : e.1.2.2.2 ≤ 1048576
  l0 : -1073741824 ≤ e.2.1
  l1 : e.2.1 ≤ 1073741824
  hi : e.2.2 = e.2.1 + e.1.2.2.2
def eA (e : ES) : Nat := e.1.1.toNat
def eB (e : ES) : Nat := e.1.2.1.toNat
def spR (F : Tb) (e : ES) : Tb :=
  updM (updM F (eA e) (eB e) (imin (F (eA e) (eB e)) e.2.2)) (eB e) (eA e) (imin (updM F (eA e) (eB e) (imin (F (eA e) (eB e)) e.2.2) (eB e) (eA e)) (wr (0 - e.2.1)))
def spT (F : Tb) (e : ES) : Tb :=
  updM (updM F (eB e) (eA e) (imin (F (eB e) (eA e)) e.2.2)) (eA e) (eB e) (imin (F (eA e) (eB e)) (wr (0 - e.2.1)))
section
variable {n : Nat} {e : ES} (h : OkE n e)
include h
theorem OkE.ab : eA e ≠ eB e ∧ eA e < n ∧ eB e < n := by
  obtain ⟨x, h1, h2⟩ := h.a
  obtain ⟨y, h3, h4⟩ := h.b
  have := h.ne
  unfold eA eB
  omega
theorem OkE.neg : wr (0 - e.2.1) = -e.2.1 := by
  have := h.l0; have := h.l1
  rw [wr_id (by omega) (by omega)]; omega
theorem spR_val (F : Tb) (x y : Nat) : spR F e x y = if x = eA e ∧ y = eB e then imin (F x y) e.2.2 else if x = eB e ∧ y = eA e then imin (F x y) (-e.2.1) else F x y := by
  obtain ⟨h1, _, _⟩ := h.ab
  unfold spR updM
  rw [h.neg]
  by_cases q : x = eA e ∧ y = eB e
  · obtain ⟨rfl, rfl⟩ := q
    rw [if_neg (by omega), if_pos ⟨rfl, rfl⟩, if_pos ⟨rfl, rfl⟩]
  · rw [if_neg q]
    by_cases q2 : x = eB e ∧ y = eA e
    · obtain ⟨rfl, rfl⟩ := q2
      have h1' := Ne.symm h1
      simp [h1, h1']
    · rw [if_neg q2, if_neg q2, if_neg q]
theorem spT_val (F : Tb) (x y : Nat) : spT F e x y = if y = eA e ∧ x = eB e then imin (F x y) e.2.2 else if y = eB e ∧ x = eA e then imin (F x y) (-e.2.1) else F x y := by
  obtain ⟨h1, _, _⟩ := h.ab
  unfold spT updM
  rw [h.neg]
  by_cases q : y = eA e ∧ x = eB e
  · obtain ⟨rfl, rfl⟩ := q
    rw [if_neg (by omega), if_pos ⟨rfl, rfl⟩, if_pos ⟨rfl, rfl⟩]
  · rw [if_neg q]
    by_cases q2 : y = eB e ∧ x = eA e
    · obtain ⟨rfl, rfl⟩ := q2
      rw [if_pos ⟨rfl, rfl⟩, if_pos ⟨rfl, rfl⟩]
    · rw [if_neg q2, if_neg (by omega), if_neg (by omega)]
theorem spT_R {R T : Tb} (hT : ∀ x y, T x y = R y x) (x y : Nat) : spT T e x y = spR R e y x := by
  rw [spT_val h, spR_val h, hT x y]
theorem spR_le (F : Tb) (x y : Nat) : spR F e x y ≤ F x y := by
  rw [spR_val h, imin_eq, imin_eq]
  split
  · split <;> omega
  · split
    · split <;> omega
    · omega
theorem spR_fine {F : Tb} (hF : Fine n 1074790400 F) : Fine n 1074790400 (spR F e) := by
  obtain ⟨h1, h2, h3⟩ := h.ab
  have := h.l0; have := h.l1; have := h.w0; have := h.w1; have := h.hi
  refine ⟨fun a ha => ?_, fun a b ha hb => ?_, fun a b ha hb => ?_, fun a b ha hb => ?_⟩
  · rw [spR_val h, if_neg (by omega), if_neg (by omega)]; exact hF.zero a ha
  · rw [spR_val h, imin_eq, imin_eq]
    have := hF.up a b ha hb
    split
    · split <;> omega
    · split
      · split <;> omega
      · omega
  · rw [spR_val h, imin_eq, imin_eq]
    have := hF.lo a b ha hb
    split
    · split <;> omega
    · split
      · split <;> omega
      · omega
  · intro hlt
    by_cases q : a = eA e ∧ b = eB e
    · rw [spR_val h, if_neg (by omega), if_pos (by omega), imin_eq]; split <;> omega
    · by_cases q2 : a = eB e ∧ b = eA e
      · rw [spR_val h, if_pos (by omega), imin_eq]; split <;> omega
      · rw [spR_val h, if_neg q, if_neg q2] at hlt
        rw [spR_val h, if_neg (by omega), if_neg (by omega)]
        exact hF.sym a b ha hb hlt
theorem spR_feas {F : Tb} {q : Nat → Int} (hF : Feas n q F) (h1 : q (eB e) - q (eA e) ≤ e.2.2) (h2 : e.2.1 ≤ q (eB e) - q (eA e)) : Feas n q (spR F e) := by
  intro x y hx hy
  have := hF x y hx hy
  rw [spR_val h, imin_eq, imin_eq]
  split
  · rename_i k; obtain ⟨rfl, rfl⟩ := k; split <;> omega
  · split
    · rename_i k; obtain ⟨rfl, rfl⟩ := k; split <;> omega
    · omega
end
def tabR (l : List ES) : Tb := l.foldl spR (diag far0)
def tabT (l : List ES) : Tb := l.foldl spT (diag far0)
theorem diag_far (x y : Nat) : diag far0 x y = if x = y then 0 else 1099511627776 := rfl
theorem fold_ind {l : List ES} {n : Nat} (hl : ∀ e ∈ l, OkE n e) {I : Tb → Prop} (h1 : ∀ e ∈ l, ∀ F, OkE n e → I F → I (spR F e)) : ∀ {F : Tb}, I F → I (l.foldl spR F) := by
  induction l with
  | nil => intro F h; exact h
  | cons e l ih =>
    intro F h
    exact ih (fun e he => hl e (by simp [he])) (fun e he => h1 e (by simp [he])) (h1 e (by simp) F (hl e (by simp)) h)
theorem tab_tr {l : List ES} {n : Nat} (hl : ∀ e ∈ l, OkE n e) : ∀ {R T : Tb}, (∀ x y, T x y = R y x) → ∀ x y, l.foldl spT T x y = l.foldl spR R y x := by
  induction l with
  | nil => intro R T h; exact h
  | cons e l ih => intro R T h; exact ih (fun e he => hl e (by simp [he])) (spT_R (hl e (by simp)) h)
theorem tabT_R {l : List ES} {n : Nat} (hl : ∀ e ∈ l, OkE n e) (x y : Nat) : tabT l x y = tabR l y x :=
  tab_tr hl (fun x y => by rw [diag_far, diag_far]; by_cases e : x = y <;> simp [e, eq_comm]) x y
theorem tabR_fine {l : List ES} {n : Nat} (hl : ∀ e ∈ l, OkE n e) : Fine n 1074790400 (tabR l) :=
  fold_ind hl (I := Fine n 1074790400) (fun e _ F he hF => spR_fine he hF) ⟨fun a _ => by rw [diag_far, if_pos rfl], fun a b _ _ => by rw [diag_far]; split <;> omega, fun a b _ _ => by rw [diag_far]; split <;> omega, fun a b _ _ => by rw [diag_far, diag_far]; intro h; split at h <;> split <;> omega⟩
theorem tabR_feas {l : List ES} {n : Nat} (hl : ∀ e ∈ l, OkE n e) {q : Nat → Int} (h0 : ∀ x y, x < n → y < n → q y - q x ≤ 1099511627776) (h1 : ∀ e ∈ l, q (eB e) - q (eA e) ≤ e.2.2 ∧ e.2.1 ≤ q (eB e) - q (eA e)) : Feas n q (tabR l) :=
  fold_ind hl (I := Feas n q) (fun e he F hk hF => spR_feas hk hF (h1 e he).1 (h1 e he).2) fun x y hx hy => by
    rw [diag_far]
    have := h0 x y hx hy
    split
    · rename_i e; subst e; omega
    · omega
theorem fold_le {l : List ES} {n : Nat} (hl : ∀ e ∈ l, OkE n e) (F : Tb) (x y : Nat) : l.foldl spR F x y ≤ F x y :=
  fold_ind hl (I := fun G => G x y ≤ F x y) (fun e _ G hk hG => Int.le_trans (spR_le hk G x y) hG) (Int.le_refl _)
theorem tabR_le {l : List ES} {n : Nat} (hl : ∀ e ∈ l, OkE n e) {e : ES} (he : e ∈ l) : tabR l (eA e) (eB e) ≤ e.2.2 ∧ tabR l (eB e) (eA e) ≤ -e.2.1 := by
  unfold tabR
  generalize diag far0 = F
  induction l generalizing F with
  | nil => cases he
  | cons d l ih =>
    rcases List.mem_cons.1 he with q | q
    · subst q
      have hk := hl e (by simp)
      obtain ⟨h1, _, _⟩ := hk.ab
      have k1 := fold_le (l := l) (n := n) (fun e he => hl e (by simp [he])) (spR F e) (eA e) (eB e)
      have k2 := fold_le (l := l) (n := n) (fun e he => hl e (by simp [he])) (spR F e) (eB e) (eA e)
      rw [spR_val hk, if_pos ⟨rfl, rfl⟩, imin_eq] at k1
      rw [spR_val hk, if_neg (by omega), if_pos ⟨rfl, rfl⟩, imin_eq] at k2
      simp only [List.foldl_cons]
      split at k1 <;> split at k2 <;> omega
    · exact ih (fun e he => hl e (by simp [he])) q (spR F d)
theorem tabR_under {l : List ES} {n : Nat} {c : Int} {cs : List S_api_Offer} (hl : ∀ e ∈ l, OkE n e) (hcs : ∀ o ∈ cs, okB (n : Int) c o = true) (hm : ∀ o ∈ cs, ∃ e ∈ l, e.1 = o) : Under n (diag (Stp cs)) (tabR l) := by
  have hs := st_steps hcs
  have hf := tabR_fine hl
  intro x y hx hy hlt
  unfold diag at hlt ⊢
  by_cases q : x = y
  · subst q
    rw [if_pos rfl, hf.zero x hx]
    omega
  · rw [if_neg q] at hlt ⊢
    obtain ⟨o, ho, hk, hw⟩ := hs.at_ x y hlt
    obtain ⟨e, he, rfl⟩ := hm o ho
    obtain ⟨h1, h2⟩ := tabR_le hl he
    have hk2 := hl e he
    have := hk2.l0; have := hk2.l1; have := hk2.w0; have := hk2.w1; have := hk2.hi
    rcases hk with ⟨k1, k2⟩ | ⟨k1, k2⟩
    · have e1 : eA e = x := by unfold eA; omega
      have e2 : eB e = y := by unfold eB; omega
      rw [e1, e2] at h1 h2
      omega
    · have e1 : eA e = y := by unfold eA; omega
      have e2 : eB e = x := by unfold eB; omega
      rw [e1, e2] at h1 h2
      omega
/-- What Known answers, of a table. -/
def ansR (n : Nat) (R : Tb) (a b : Nat) : S_api_Span × Bool × Int :=
  if ((List.range n).all fun c => noClash n R (c + 1)) = true then (if 1099511627776 ≤ clF n R n a b then ((0, 0), false, 0) else ((wr (0 - clF n R n b a), clF n R n a b), true, 0)) else ((0, 0), false, 31)
def ansT (n : Nat) (T : Tb) (a b : Nat) : S_api_Span × Bool × Int :=
  if noClash n T n = true then (if 1099511627776 ≤ clF n T n a b then ((0, 0), false, 0) else ((wr (0 - clF n T n a b), clF n T n b a), true, 0)) else ((0, 0), false, 31)
theorem ans_same {l : List ES} {n : Nat} (hn : n ≤ 8) (hl : ∀ e ∈ l, OkE n e) {a b : Nat} (ha : a < n) (hb : b < n) : ansR n (tabR l) a b = ansT n (tabT l) a b := by
  obtain ⟨h1, h2⟩ := clash_same hn (tabR_fine hl) (T := tabT l) (fun x y _ _ => tabT_R hl x y)
  unfold ansR ansT
  rw [h1]
  by_cases q : noClash n (tabT l) n = true
  · obtain ⟨g1, g2⟩ := h2 q
    rw [if_pos q, if_pos q, g2 a b ha hb, g2 b a hb ha]
    have s1 := g1.sym a b ha hb; have s2 := g1.sym b a hb ha
    by_cases k : 1099511627776 ≤ clF n (tabR l) n a b
    · rw [if_pos k, if_pos (by omega)]
    · rw [if_neg k, if_neg (by omega)]
  · rw [if_neg q, if_neg q]
/-- Of spans that 0 and a potential both fulfil, the difference has just the width. -/
theorem ans_width {l : List ES} {n : Nat} (hn : n ≤ 8) {c : Int} {cs : List S_api_Offer} (hl : ∀ e ∈ l, OkE n e) (hcs : ∀ o ∈ cs, okB (n : Int) c o = true) (hm : ∀ o ∈ cs, ∃ e ∈ l, e.1 = o) {q : Nat → Int}
    (h0 : ∀ x y, x < n → y < n → q y - q x ≤ 1099511627776) (h1 : ∀ e ∈ l, q (eB e) - q (eA e) ≤ e.2.2 ∧ e.2.1 ≤ q (eB e) - q (eA e)) (h2 : ∀ e ∈ l, 0 ≤ e.2.2 ∧ e.2.1 ≤ 0) {a b : Nat} (ha : a < n) (hb : b < n)
    (hw : Wd n cs a b < 1099511627776) (hqa : q a = 0) (hqb : q b = Wd n cs a b) : ∃ lo hi, ansR n (tabR l) a b = ((lo, hi), true, 0) ∧ hi - lo = Wd n cs a b ∧ lo ≤ 0 ∧ -1099511627776 < lo ∧ 0 ≤ hi ∧ hi < 1099511627776 := by
  have hs := st_steps hcs
  have hcl : Half n 0 (Stp cs) (diag (Stp cs)) := by
    refine ⟨fun a ha => ?_, fun a b ha hb => ?_, fun a b ha hb => ?_, fun a b ha hb => ?_, fun a b k _ _ hk => absurd hk (by omega), fun a b ha hb => ?_⟩
    · unfold diag; rw [if_pos rfl]
    · unfold diag; have := hs.pos a b; split <;> omega
    · unfold diag; have := hs.far a b; unfold Wh.far at *; split <;> omega
    · unfold diag; have := hs.pos a b; split <;> omega
    · unfold diag
      split
      · rename_i q; subst q; intro _; exact ⟨0, .nil ha⟩
      · intro q; exact ⟨1, .one ha hb q⟩
  obtain ⟨g1, g2, g3, g4, g5⟩ := spans_hold hn hcl (tabR_fine hl) (tabR_under hl hcs hm) (tabR_feas hl (q := fun _ => 0) (by intros; omega) (fun e he => by have := h2 e he; omega)) (tabR_feas hl h0 h1) n (Nat.le_refl _)
  have e1 : Wd n cs = itr (fun c F => phs hmin n c F) n (diag (Stp cs)) := by unfold Wd; rw [fw_cls]; rfl
  rw [← e1] at g3
  obtain ⟨u1, u2, u3⟩ := g3 a b ha hb hw
  have f1 := g5 a b ha hb
  have f2 := g4 b a hb ha
  have f3 := g4 a b ha hb
  have l1 := g2.lo b a hb ha
  simp only [Int.sub_self] at f2 f3
  refine ⟨-clF n (tabR l) n b a, clF n (tabR l) n a b, ?_, by omega, by omega, by omega, by omega, u1⟩
  unfold ansR
  rw [if_pos (List.all_eq_true.2 fun j hj => g1 j (List.mem_range.1 hj)), if_neg (by omega), wr_id (by omega) (by omega), Int.zero_sub]
end Go.Proofs.Ytkbilbeaedocjaa

namespace Go.Proofs.Ytkbilbeaedocjaa
open Go Go.Proofs.Ytkbilbeaedocjaa.Wh
set_option maxRecDepth 100000

theorem f46_eqQ {a b : List S_api_Offer} (ha : a.length ≤ 4096) (hb : b.length ≤ 4096) : M.f46 [a, b] = some (a ++ b) := by
  unfold M.f46
  have n2 : ((([a, b] : List (List S_api_Offer)).length : Int)) = ((2 : Nat) : Int) := rfl
  rw [n2]
  refine bnd (forS_st (fun j => match j with | 0 => (0 : Int) | 1 => (a.length : Int) | _ => ((a.length + b.length : Nat) : Int)) rfl (by omega) fun j hj => ?_) ?_
  · match j, hj with
    | 0, _ =>
      refine bnd (y := a) rfl ?_
      show ((if decide (wr (0 + (a.length : Int)) < 0) = true then none else some ()) >>= fun () => some (wr (0 + (a.length : Int)))) = some (a.length : Int)
      rw [Int.zero_add, wr_id (by omega) (by omega), if_neg (by simp)]
      rfl
    | 1, _ =>
      refine bnd (y := b) rfl ?_
      show ((if decide (wr ((a.length : Int) + (b.length : Int)) < 0) = true then none else some ()) >>= fun () => some (wr ((a.length : Int) + (b.length : Int)))) = some ((a.length + b.length : Nat) : Int)
      rw [wr_id (by omega) (by omega), if_neg (by simp; omega)]
      rfl
  · refine bnd (y := ()) ?_ ?_
    · show M.f98 ((a.length + b.length : Nat) : Int) = some ()
      unfold M.f98
      rw [if_pos (by omega)]
    · refine bnd (forS_st (fun j => match j with | 0 => [] | 1 => a | _ => a ++ b) rfl (by omega) fun j hj => ?_) rfl
      match j, hj with
      | 0, _ =>
        refine bnd (y := a) rfl (bnd (y := a) ?_ rfl)
        show app ([] : List S_api_Offer) a = some a
        unfold app
        rw [if_pos (by simp; omega)]; rfl
      | 1, _ =>
        refine bnd (y := b) rfl (bnd (y := a ++ b) ?_ rfl)
        show app a b = some (a ++ b)
        unfold app
        rw [if_pos (by omega)]
theorem f110_eqQ {a b : List S_api_Span} (ha : a.length ≤ 4096) (hb : b.length ≤ 4096) : M.f110 [a, b] = some (a ++ b) := by
  unfold M.f110
  have n2 : ((([a, b] : List (List S_api_Span)).length : Int)) = ((2 : Nat) : Int) := rfl
  rw [n2]
  refine bnd (forS_st (fun j => match j with | 0 => (0 : Int) | 1 => (a.length : Int) | _ => ((a.length + b.length : Nat) : Int)) rfl (by omega) fun j hj => ?_) ?_
  · match j, hj with
    | 0, _ =>
      refine bnd (y := a) rfl ?_
      show ((if decide (wr (0 + (a.length : Int)) < 0) = true then none else some ()) >>= fun () => some (wr (0 + (a.length : Int)))) = some (a.length : Int)
      rw [Int.zero_add, wr_id (by omega) (by omega), if_neg (by simp)]
      rfl
    | 1, _ =>
      refine bnd (y := b) rfl ?_
      show ((if decide (wr ((a.length : Int) + (b.length : Int)) < 0) = true then none else some ()) >>= fun () => some (wr ((a.length : Int) + (b.length : Int)))) = some ((a.length + b.length : Nat) : Int)
      rw [wr_id (by omega) (by omega), if_neg (by simp; omega)]
      rfl
  · refine bnd (y := ()) ?_ ?_
    · show M.f127 ((a.length + b.length : Nat) : Int) = some ()
      unfold M.f127
      rw [if_pos (by omega)]
    · refine bnd (forS_st (fun j => match j with | 0 => [] | 1 => a | _ => a ++ b) rfl (by omega) fun j hj => ?_) rfl
      match j, hj with
      | 0, _ =>
        refine bnd (y := a) rfl (bnd (y := a) ?_ rfl)
        show app ([] : List S_api_Span) a = some a
        unfold app
        rw [if_pos (by simp; omega)]; rfl
      | 1, _ =>
        refine bnd (y := b) rfl (bnd (y := a ++ b) ?_ rfl)
        show app a b = some (a ++ b)
        unfold app
        rw [if_pos (by omega)]
theorem picks_loop {of : List S_api_Offer} {l : List Nat} (hl : ∀ i ∈ l, i < of.length) (hn : l.length ≤ 4000) :
    forS 0 ((cst l).length : Int) (([] : List S_api_Offer) : (List S_api_Offer)) (fun i_4 s_6 => (idx (cst l) i_4) >>= fun v_11 => (idx of v_11) >>= fun v_13 => (app s_6 ([v_13] : List S_api_Offer)) >>= fun z_15 => some z_15) = some (picks of l) := by
  rw [cst_length]
  have := forS_st (N := l.length) (s := ([] : List S_api_Offer)) (f := fun i_4 s_6 => (idx (cst l) i_4) >>= fun v_11 => (idx of v_11) >>= fun v_13 => (app s_6 ([v_13] : List S_api_Offer)) >>= fun z_15 => some z_15) (fun j => picks of (l.take j)) (by simp [picks]) (by omega) fun j hj => by
    obtain ⟨i, o, hi, ho⟩ := pick_at hl hj
    have hlen := picks_len of (l.take j)
    rw [List.length_take] at hlen
    simp only [cst_get hi, Option.bind_eq_bind, Option.bind_some, idx_nat, ho]
    rw [app_one (by omega), picks_take hi ho]
    rfl
  rw [List.take_length] at this
  exact this
def okS (o : S_api_Offer) (s : S_api_Span) : Bool := decide (-1073741824 ≤ s.1) && decide (s.1 ≤ 1073741824) && (s.2 == wr (s.1 + o.2.2.2))
def tellsB (l : List S_api_Offer) (x : List S_api_Span) : Bool := decide (l.length = x.length) && (l.zip x).all fun e => okS e.1 e.2
theorem zip_at {α β : Type} {l : List α} {x : List β} {j : Nat} {a : α} {b : β} (h1 : l[j]? = some a) (h2 : x[j]? = some b) : (l.zip x)[j]? = some (a, b) := by
  rw [List.getElem?_zip_eq_some]; exact ⟨h1, h2⟩
theorem f108_eq (l : List S_api_Offer) (x : List S_api_Span) (hx : x.length ≤ 4096) : M.f108 l x = some (tellsB l x) := by
  unfold M.f108 tellsB
  by_cases hl : l.length = x.length
  · rw [if_neg (by simp [hl])]
    refine bnd (forM_test (N := x.length) (fun j => match (l.zip x)[j]? with | some e => okS e.1 e.2 | none => true) false (by omega) fun j hj _ => ?_) ?_
    · have h1 := List.getElem?_eq_getElem hj
      have h2 := List.getElem?_eq_getElem (show j < l.length by omega)
      rw [zip_at h2 h1, idx_nat, idx_nat, h1, h2]
      generalize x[j] = s
      generalize l[j] = o
      simp only [Option.bind_eq_bind, Option.bind_some]
      unfold okS
      by_cases k1 : s.1 < -1073741824
      · simp [k1, guardO, show ¬ -1073741824 ≤ s.1 by omega]
      · by_cases k2 : 1073741824 < s.1
        · simp [k1, k2, guardO, show ¬ s.1 ≤ 1073741824 by omega]
        · by_cases k3 : s.2 = wr (s.1 + o.2.2.2)
          · simp [k1, k2, guardO, k3, show -1073741824 ≤ s.1 by omega, show s.1 ≤ 1073741824 by omega]
          · simp [k1, k2, guardO, k3]
    · have e : (List.range x.length).all (fun j => match (l.zip x)[j]? with | some e => okS e.1 e.2 | none => true) = (l.zip x).all fun e => okS e.1 e.2 := by
        have hz : (l.zip x).length = x.length := by rw [List.length_zip]; omega
        rw [← hz]
        exact all_range _ _ _ fun j e h => by rw [h]
      rw [e]
      cases (l.zip x).all fun e => okS e.1 e.2 <;> simp [hl, Out.elim]
  · rw [if_pos (by simp; omega)]
    simp [hl]
theorem tells_both {kn ps : List S_api_Offer} {x y : List S_api_Span} : (tellsB kn x && tellsB ps y) = (decide (kn.length = x.length) && decide (ps.length = y.length) && ((kn ++ ps).zip (x ++ y)).all fun e => okS e.1 e.2) := by
  unfold tellsB
  by_cases h : kn.length = x.length
  · rw [List.zip_append h, List.all_append]
    cases (kn.zip x).all fun e => okS e.1 e.2 <;> cases (ps.zip y).all fun e => okS e.1 e.2 <;> simp [h]
  · simp [h]
theorem okE_of {n : Nat} {c : Int} {e : ES} (h : okB (n : Int) c e.1 = true) (hs : okS e.1 e.2 = true) : OkE n e := by
  unfold okB at h
  unfold okS at hs
  simp at h hs
  obtain ⟨⟨⟨⟨⟨⟨⟨⟨h1, h2⟩, h3⟩, h4⟩, h5⟩, h6⟩, h7⟩, h8⟩, h9⟩ := h
  obtain ⟨⟨k1, k2⟩, k3⟩ := hs
  rw [wr_id (by omega) (by omega)] at k3
  exact ⟨⟨e.1.1.toNat, by omega, by omega⟩, ⟨e.1.2.1.toNat, by omega, by omega⟩, h5, h6, h7, k1, k2, k3⟩
theorem okE_all {n : Nat} {c : Int} {cs : List S_api_Offer} {x : List S_api_Span} (h : ∀ o ∈ cs, okB (n : Int) c o = true) (hs : ((cs.zip x).all fun e => okS e.1 e.2) = true) : ∀ e ∈ cs.zip x, OkE n e :=
  fun e he => okE_of (h e.1 (List.of_mem_zip he).1) (List.all_eq_true.1 hs e he)
theorem stp_self (c x y : Nat) (F : Tb) (h : ¬ (F x c < 1099511627776 ∧ F c y < 1099511627776)) : stp hfar c x y F = F := by
  unfold stp hfar
  rw [if_neg h]
  funext a b
  unfold updM
  split
  · rename_i q; rw [q.1, q.2]
  · rfl
section
variable {n : Nat} {kn of : List S_api_Offer} (hm : Ok n kn of)
include hm
theorem Ok.okB {l : List Nat} : ∀ o ∈ kn ++ picks of l, okB (n : Int) 10000 o = true := by
  intro o ho
  rcases List.mem_append.1 ho with ho | ho
  · exact okB_mono (hm.k o ho) (by omega)
  · obtain ⟨i, _, hi⟩ := mem_picks.1 ho
    exact hm.o o (List.mem_of_getElem? hi)
theorem Ok.f61 {s a b : Nat} {p4 p5 : List S_api_Span} (ha : a < n) (hb : b < n) (hc : codeQ ((n : Int), kn, of) (cst (sel of.length s)) [(a : Int), (b : Int)] [] = 0) (h4 : p4.length ≤ 100) (h5 : p5.length ≤ 100) :
    M.f61 ((n : Int), kn, of) (cst (sel of.length s)) a b p4 p5 = some (if (tellsB kn p4 && tellsB (picks of (sel of.length s)) p5) = true then ansT n (tabT ((kn ++ picks of (sel of.length s)).zip (p4 ++ p5))) a b else ((0, 0), false, 1)) := by
  have h6 := hm.lo; have hk := hm.lk; have h8 := hm.n8
  have h7 := sel_len of.length s
  have hpl := picks_len of (sel of.length s)
  unfold M.f61
  refine bnd (f76_eqQ _ _ _ _ (by rw [cst_length]; omega) (by simp) (by simp)) ?_
  rw [hc, if_neg (by decide)]
  refine bnd (picks_loop (fun i hi => sel_lt hi) (by omega)) ?_
  refine bnd (f108_eq _ _ (by omega)) ?_
  have hokB := hm.okB (l := sel of.length s)
  generalize picks of (sel of.length s) = ps at *
  refine bnd (y := tellsB kn p4 && tellsB ps p5) ?_ ?_
  · rw [f108_eq _ _ (by omega)]
    cases tellsB kn p4 <;> simp [guardO]
  by_cases ht : (tellsB kn p4 && tellsB ps p5) = true
  · rw [if_pos ht, ht]
    have ht' := ht
    rw [Bool.and_eq_true] at ht'
    rw [ht'.1, if_neg (by decide)]
    have hcs : (kn ++ ps).length = (p4 ++ p5).length := by
      rw [tells_both] at ht
      simp at ht
      simp; omega
    have hz : (((kn ++ ps).zip (p4 ++ p5)).all fun e => okS e.1 e.2) = true := by
      rw [tells_both] at ht
      simp only [Bool.and_eq_true] at ht
      exact ht.2
    have hE := okE_all hokB hz
    refine bnd (f109_eq hm.n2 h8) ?_
    refine bnd (forS_map (fun c G => updM G c c 0) (mat n) (by omega) fun j F hj => by
      simp only [Option.bind_eq_bind, Option.bind_some, idx_mat hj, idx_row hj, set2_mat hj hj]) ?_
    rw [itr_diag n]
    rw [mat_congr (G := diag far0) (fun a b ha hb => by unfold diag; by_cases h : a = b <;> simp [h, hb])]
    refine bnd (f46_eqQ (show kn.length ≤ 4096 by omega) (by omega)) ?_
    have hf110 : M.f110 ([p4, p5] : List (List S_api_Span)) = some (p4 ++ p5) := f110_eqQ (by omega) (by omega)
    rw [hf110]
    have hcl : (kn ++ ps).length ≤ 4096 := by rw [List.length_append]; omega
    show ((forS 0 ((kn ++ ps).length : Int) _ _) >>= _) = _
    generalize kn ++ ps = cs at *
    generalize p4 ++ p5 = x at *
    have hlz : (cs.zip x).length = cs.length := by rw [List.length_zip]; omega
    refine bnd (forS_st (N := cs.length) (fun j => mat n (((cs.zip x).take j).foldl spT (diag far0))) rfl ?_ fun j hj => ?_) ?_
    · omega
    · have h1 := List.getElem?_eq_getElem hj
      have h2 := List.getElem?_eq_getElem (show j < x.length by omega)
      have hzj := zip_at h1 h2
      have he := hE _ (List.mem_of_getElem? hzj)
      rw [take_foldl hzj]
      generalize ((cs.zip x).take j).foldl spT (diag far0) = F
      refine bnd (by rw [idx_nat]; exact h1) (bnd rfl (bnd (by rw [idx_nat]; exact h2) ?_))
      generalize cs[j] = o at *
      generalize x[j] = sp at *
      obtain ⟨oa, ob, oc, ow⟩ := o
      obtain ⟨u, hu1, hu2⟩ := he.a
      obtain ⟨v, hv1, hv2⟩ := he.b
      have hu1 : oa = (u : Int) := hu1
      have hv1 : ob = (v : Int) := hv1
      subst hu1; subst hv1
      simp only [Option.bind_eq_bind, Option.bind_some, idx_mat hu2, idx_mat hv2, idx_row hu2, idx_row hv2, set2_mat hu2 hv2, set2_mat hv2 hu2, spT, eA, eB, Int.toNat_natCast]
    · rw [← hlz, List.take_length]
      show (forS 0 (n : Int) (mat n (tabT (cs.zip x))) _ >>= _) = _
      generalize tabT (cs.zip x) = T
      refine bnd (forS_map (fun c F => phs hfar n c F) (mat n) (by omega) fun c F hc => ?_) ?_
      · refine bnd (forS_map (fun a F => rowp hfar n c a F) (mat n) (by omega) fun a F ha => ?_) rfl
        refine bnd (forS_map (fun b F => stp hfar c a b F) (mat n) (by omega) fun b F hb => ?_) rfl
        simp only [Option.bind_eq_bind, Option.bind_some, idx_mat hc, idx_mat ha, idx_row hb, idx_row hc, set2_mat ha hb]
        by_cases k1 : F a c < 1099511627776
        · by_cases k2 : F c b < 1099511627776
          · simp [guardO, k1, k2, stp, hfar, idx_row hb]
          · simp [guardO, k1, k2, idx_row hb, stp_self c a b F (by omega)]
        · simp [guardO, k1, stp_self c a b F (by omega)]
      · show ((forM (ρ := (S_api_Span × Bool × Int)) 0 (n : Int) () _) >>= _) = _
        refine bnd (forM_test (N := n) (fun j => !decide (clF n T n j j < 0)) ((0, 0), false, 31) (by omega) fun j hj _ => ?_) ?_
        · refine bnd (idx_mat hj) (bnd (idx_row hj) ?_)
          show (if decide (clF n T n j j < 0) = true then _ else _) = _
          by_cases q : clF n T n j j < 0 <;> simp [q]
        · unfold ansT
          show (Out.elim (if noClash n T n = true then _ else _) _ _) = _
          cases noClash n T n with
          | false => rfl
          | true =>
            simp only [if_true, Out.elim]
            refine bnd (idx_mat ha) (bnd (idx_row hb) ?_)
            show (if decide (1099511627776 ≤ clF n T n a b) = true then _ else _) = _
            by_cases q : 1099511627776 ≤ clF n T n a b
            · rw [if_pos (by simpa using q), if_pos q]
            · rw [if_neg (by simpa using q), if_neg q]
              exact bnd (idx_mat ha) (bnd (idx_row hb) (bnd (idx_mat hb) (bnd (idx_row ha) rfl)))
  · rw [if_neg ht]
    have : ((!tellsB kn p4) || !(tellsB kn p4 && tellsB ps p5)) = true := by
      cases h1 : tellsB kn p4 <;> cases h2 : tellsB ps p5 <;> simp [h1, h2] at ht ⊢
    rw [if_pos this]
end
end Go.Proofs.Ytkbilbeaedocjaa

namespace Go.Proofs.Ytkbilbeaedocjaa
open Go Go.Proofs.Ytkbilbeaedocjaa.Wh
set_option maxRecDepth 100000

theorem picks_length {of : List S_api_Offer} {l : List Nat} (hl : ∀ i ∈ l, i < of.length) : (picks of l).length = l.length := by
  induction l with
  | nil => rfl
  | cons i l ih =>
    have h := List.getElem?_eq_getElem (hl i (by simp))
    have := ih fun i hi => hl i (by simp [hi])
    unfold picks at *
    rw [List.filterMap_cons, h]
    simp [this]
def pot (W : Tb) (a c : Nat) : Int := if 1099511627776 ≤ W a c then 0 else W a c
def spn (W : Tb) (a : Nat) (o : S_api_Offer) : S_api_Span :=
  (imin 0 (wr (pot W a o.2.1.toNat - pot W a o.1.toNat)), wr (imin 0 (wr (pot W a o.2.1.toNat - pot W a o.1.toNat)) + o.2.2.2))
theorem f111_eq {n a c : Nat} {W : Tb} (ha : a < n) (hc : c < n) : M.f111 (c : Int) (mat n W) (a : Int) = some (pot W a c) := by
  unfold M.f111 pot
  refine bnd (idx_mat ha) (bnd (idx_row hc) ?_)
  by_cases q : 1099511627776 ≤ W a c
  · rw [if_pos (by simpa using q), if_pos q]
  · rw [if_neg (by simpa using q), if_neg q]
    exact bnd (idx_mat ha) (bnd (idx_row hc) rfl)
theorem f112_eq {n a : Nat} {W : Tb} {o : S_api_Offer} (ha : a < n) (ho : OkC n o) : M.f112 o (fun x0 => M.f111 x0 (mat n W) (a : Int)) = some (spn W a o) := by
  obtain ⟨⟨x, hx1, hx2⟩, ⟨y, hy1, hy2⟩, _⟩ := ho
  obtain ⟨oa, ob, oc, ow⟩ := o
  have hx1 : oa = (x : Int) := hx1
  have hy1 : ob = (y : Int) := hy1
  subst hx1; subst hy1
  unfold M.f112
  refine bnd (f111_eq ha hy2) (bnd (f111_eq ha hx2) ?_)
  unfold spn
  simp only [Int.toNat_natCast]
section
variable {n : Nat} {kn of : List S_api_Offer} (hm : Ok n kn of)
include hm
theorem Ok.f62 {s a b : Nat} {p4 p5 : List S_api_Span} (ha : a < n) (hb : b < n) (hc : codeQ ((n : Int), kn, of) (cst (sel of.length s)) [(a : Int), (b : Int)] [] = 0) (h4 : p4.length ≤ 100) (h5 : p5.length ≤ 100) :
    M.f62 1000 ((n : Int), kn, of) (cst (sel of.length s)) a b p4 p5 = some (if (tellsB kn p4 && tellsB (picks of (sel of.length s)) p5) = true then ansR n (tabR ((kn ++ picks of (sel of.length s)).zip (p4 ++ p5))) a b else ((0, 0), false, 1)) := by
  have h6 := hm.lo; have hk := hm.lk; have h8 := hm.n8
  have h7 := sel_len of.length s
  have hpl := picks_length (of := of) (l := sel of.length s) fun i hi => sel_lt hi
  unfold M.f62
  refine bnd (f72_eqQ _ _ _ _ (by rw [cst_length]; omega) (by simp)) ?_
  obtain ⟨c1, c2, c3, _⟩ := codeQ_valid hc
  rw [codeQ_zero c1 c2 c3 (by rfl), if_neg (by decide)]
  refine bnd hm.cmps ?_
  have hokB := hm.okB (l := sel of.length s)
  have hcl := cst_length (sel of.length s)
  generalize picks of (sel of.length s) = ps at *
  rw [tells_both]
  by_cases hl : kn.length = p4.length ∧ ps.length = p5.length
  · obtain ⟨l1, l2⟩ := hl
    rw [if_neg (by simp [l1]; omega)]
    refine bnd (y := p4) (by unfold app; rw [if_pos (by simp; omega)]; rfl) (bnd (y := p4 ++ p5) (by unfold app; rw [if_pos (by omega)]) ?_)
    have hcs : (kn ++ ps).length = (p4 ++ p5).length := by simp; omega
    have hcl : (kn ++ ps).length ≤ 900 := by rw [List.length_append]; omega
    simp only [l1, l2, decide_true, Bool.true_and]
    generalize kn ++ ps = cs at *
    generalize p4 ++ p5 = x at *
    have hlz : (cs.zip x).length = cs.length := by rw [List.length_zip]; omega
    refine bnd (loopM_test (N := cs.length) (fun j => (j : Int)) (fun j => match (cs.zip x)[j]? with | some e => okS e.1 e.2 | none => true) (.inr ((0, 0), false, 1)) (.inl ()) rfl (by omega) (fun j hj _ => ?_) ?_) ?_
    · have h1 := List.getElem?_eq_getElem hj
      have h2 := List.getElem?_eq_getElem (show j < x.length by omega)
      rw [zip_at h1 h2, if_pos (by simpa using hj)]
      refine bnd (by rw [idx_nat]; exact h2) (bnd (f80_eq _ _ _) ?_)
      simp only [idx_nat, h1, h2]
      generalize x[j] = sp
      generalize cs[j] = o
      unfold okS
      rw [wr_id (n := (j : Int) + 1) (by omega) (by omega)]
      by_cases k1 : -1073741824 ≤ sp.1
      · by_cases k2 : sp.1 ≤ 1073741824
        · by_cases k3 : sp.2 = wr (sp.1 + o.2.2.2)
          · simp [k1, k2, guardO, k3]
          · simp [k1, k2, guardO, k3]
        · simp [k1, k2, guardO]
      · simp [k1, guardO]
    · rw [if_neg (by simp)]
    · have e : (List.range cs.length).all (fun j => match (cs.zip x)[j]? with | some e => okS e.1 e.2 | none => true) = (cs.zip x).all fun e => okS e.1 e.2 := by
        rw [← hlz]
        exact all_range _ _ _ fun j e h => by rw [h]
      rw [e]
      cases hz : (cs.zip x).all fun e => okS e.1 e.2 with
      | false => rfl
      | true =>
        have hE := okE_all hokB hz
        simp only [if_true]
        refine bnd (blankR_eq hm.n2 h8) ?_
        refine bnd (loopM_go (N := cs.length) (fun j => ((j : Int), mat n (((cs.zip x).take j).foldl spR (diag far0)))) (mat n (tabR (cs.zip x))) rfl (by omega) (fun j hj => ?_) ?_) ?_
        · have h1 := List.getElem?_eq_getElem hj
          have h2 := List.getElem?_eq_getElem (show j < x.length by omega)
          have hzj := zip_at h1 h2
          have he := hE _ (List.mem_of_getElem? hzj)
          rw [take_foldl hzj, if_pos (by simpa using hj)]
          generalize ((cs.zip x).take j).foldl spR (diag far0) = F
          simp only [idx_nat, h1, h2]
          generalize cs[j] = o at *
          generalize x[j] = sp at *
          obtain ⟨oa, ob, oc, ow⟩ := o
          obtain ⟨u, hu1, hu2⟩ := he.a
          obtain ⟨v, hv1, hv2⟩ := he.b
          have hu1 : oa = (u : Int) := hu1
          have hv1 : ob = (v : Int) := hv1
          subst hu1; subst hv1
          rw [wr_id (n := (j : Int) + 1) (by omega) (by omega)]
          simp only [Option.bind_eq_bind, Option.bind_some, idx_mat hu2, idx_mat hv2, idx_row hu2, idx_row hv2, set2_mat hu2 hv2, set2_mat hv2 hu2, spR, eA, eB, Int.toNat_natCast]
          rfl
        · rw [if_neg (by simp)]
          show some (Out.leave (mat n (((cs.zip x).take cs.length).foldl spR (diag far0)))) = _
          rw [← hlz, List.take_length]; rfl
        · show (loopM _ 1000 ((0 : Int), mat n (tabR (cs.zip x))) >>= _) = _
          generalize tabR (cs.zip x) = R
          refine bnd (loopM_test (N := n) (fun c => ((c : Int), mat n (clF n R c))) (fun c => noClash n R (c + 1)) (.inr ((0, 0), false, 31)) (.inl (mat n (clF n R n))) rfl (by omega) (fun c hc _ => ?_) ?_) ?_
          · rw [if_pos (by simpa using hc)]
            refine bnd (loopM_map (N := n) (fun a F => rowp hfar n c a F) (fun j F => ((j : Int), mat n F)) (fun F => mat n F) (t0 := clF n R c) (by omega) (fun a F ha => ?_) (fun F => by rw [if_neg (by simp)])) ?_
            · rw [if_pos (by simpa using ha)]
              refine bnd (loopM_map (N := n) (fun b F => stp hfar c a b F) (fun j F => ((j : Int), mat n F)) (fun F => mat n F) (t0 := F) (by omega) (fun b F hb => ?_) (fun F => by rw [if_neg (by simp)])) ?_
              · rw [if_pos (by simpa using hb), wr_id (n := (b : Int) + 1) (by omega) (by omega)]
                simp only [Option.bind_eq_bind, Option.bind_some, idx_mat hc, idx_mat ha, idx_row hb, idx_row hc, set2_mat ha hb]
                by_cases k1 : F a c < 1099511627776
                · by_cases k2 : F c b < 1099511627776
                  · simp [guardO, k1, k2, stp, hfar, idx_row hb]
                  · simp [guardO, k1, k2, idx_row hb, stp_self c a b F (by omega)]
                · simp [guardO, k1, stp_self c a b F (by omega)]
              · rw [wr_id (n := (a : Int) + 1) (by omega) (by omega)]; rfl
            · show (loopM _ 1000 (0 : Int) >>= _) = _
              refine bnd (loopM_test (N := n) (fun j => (j : Int)) (fun j => !decide (clF n R (c + 1) j j < 0)) (.inr ((0, 0), false, 31)) (.inl ()) rfl (by omega) (fun j hj _ => ?_) ?_) ?_
              · rw [if_pos (by simpa using hj)]
                refine bnd (idx_mat hj) (bnd (idx_row hj) ?_)
                rw [wr_id (n := (j : Int) + 1) (by omega) (by omega)]
                show (if decide (clF n R (c + 1) j j < 0) = true then _ else _) = _
                by_cases q : clF n R (c + 1) j j < 0 <;> simp [q]
              · rw [if_neg (by simp)]
              · show sumE (if noClash n R (c + 1) = true then _ else _) _ _ = _
                rw [wr_id (n := (c : Int) + 1) (by omega) (by omega)]
                cases noClash n R (c + 1) <;> rfl
          · rw [if_neg (by simp)]
          · unfold ansR
            show sumE (if ((List.range n).all fun c => noClash n R (c + 1)) = true then _ else _) _ _ = _
            cases (List.range n).all fun c => noClash n R (c + 1) with
            | false => rfl
            | true =>
              simp only [if_true]
              refine bnd (idx_mat ha) (bnd (idx_row hb) ?_)
              by_cases q : 1099511627776 ≤ clF n R n a b
              · rw [if_pos (by simpa using q), if_pos q]
              · rw [if_neg (by simpa using q), if_neg q]
                exact bnd (idx_mat hb) (bnd (idx_row ha) (bnd (idx_mat ha) (bnd (idx_row hb) rfl)))
  · have e : ((((p4.length : Int) != (((n : Int), kn, of) : S_api_Market).2.1.length) || ((p5.length : Int) != ((cst (sel of.length s)).length : Int)))) = true := by
      show ((((p4.length : Int) != (kn.length : Int)) || ((p5.length : Int) != ((cst (sel of.length s)).length : Int)))) = true
      rw [hcl]
      simp
      omega
    rw [if_pos e, if_neg]
    simp
    omega
theorem Ok.f63 {s a b : Nat} (hs : s < 2 ^ of.length) (ha : a < n) (hb : b < n) (hc : codeQ ((n : Int), kn, of) (cst (sel of.length s)) [(a : Int), (b : Int)] [] = 0) :
    M.f63 ((n : Int), kn, of) (cst (sel of.length s)) a b = some (if 1099511627776 ≤ WdS n kn of s a b then ([], [], 4) else (kn.map (spn (WdS n kn of s) a), (picks of (sel of.length s)).map (spn (WdS n kn of s) a), 0)) := by
  have h6 := hm.lo; have hk := hm.lk; have h8 := hm.n8
  have h7 := sel_len of.length s
  unfold M.f63
  refine bnd (f76_eqQ _ _ _ _ (by rw [cst_length]; omega) (by simp) (by simp)) ?_
  rw [hc, if_neg (by decide)]
  refine bnd (hm.set hs) (bnd (hm.f83 hs) (bnd (idx_mat ha) (bnd (idx_row hb) ?_)))
  generalize WdS n kn of s = W
  by_cases q : 1099511627776 ≤ W a b
  · rw [if_pos (by simpa using q), if_pos q]
  · rw [if_neg (by simpa using q), if_neg q]
    refine bnd (forS_st (N := kn.length) (fun j => (kn.take j).map (spn W a)) rfl (by omega) fun j hj => ?_) ?_
    · have h1 := List.getElem?_eq_getElem hj
      refine bnd (by rw [idx_nat]; exact h1) (bnd (f112_eq ha (okC_of (hm.k kn[j] (by simp)))) ?_)
      rw [app_one (by rw [List.length_map, List.length_take]; omega), List.take_add_one, h1, List.map_append]
      rfl
    · rw [List.take_length]
      show (forS 0 ((cst (sel of.length s)).length : Int) _ _ >>= _) = _
      rw [cst_length]
      refine bnd (forS_st (N := (sel of.length s).length) (fun j => (picks of ((sel of.length s).take j)).map (spn W a)) rfl (by omega) fun j hj => ?_) ?_
      · obtain ⟨i, o, hi, ho⟩ := pick_at (of := of) (l := sel of.length s) (fun i hi => sel_lt hi) hj
        have hlen := picks_len of ((sel of.length s).take j)
        rw [List.length_take] at hlen
        refine bnd (cst_get hi) (bnd (by rw [idx_nat]; exact ho) (bnd (f112_eq ha (okC_of (hm.o o (List.mem_of_getElem? ho)))) ?_))
        rw [app_one (by rw [List.length_map]; omega), picks_take hi ho, List.map_append]
        rfl
      · rw [List.take_length]
end
end Go.Proofs.Ytkbilbeaedocjaa
