/-
  What is proved: tables of how much a clock can be ahead of another one: phases of their closure, clashes, and what a potential tells.
-/
import Derived.Test.YtkbilbeaedocjaaKeepG
namespace Go.Proofs.Ytkbilbeaedocjaa
open Go Go.Proofs.Ytkbilbeaedocjaa.Wh
abbrev Tb := Nat → Nat → Int
def hfar (x y z : Int) : Int := if y < 1099511627776 ∧ z < 1099511627776 then imin x (wr (y + z)) else x
theorem imin_eq (a b : Int) : imin a b = if b < a then b else a := rfl
theorem hfar_le (x y z : Int) : hfar x y z ≤ x := by
  unfold hfar
  split
  · rw [imin_eq]; split <;> omega
  · omega
structure Fine (n : Nat) (B : Int) (F : Tb) : Prop where
  zero : ∀ a, a < n → F a a = 0
  up : ∀ a b, a < n → b < n → F a b = 1099511627776 ∨ F a b ≤ B
  lo : ∀ a b, a < n → b < n → -B ≤ F a b
  sym : ∀ a b, a < n → b < n → F a b < 1099511627776 → F b a < 1099511627776
theorem hfar_val {B x y z : Int} (hB : 2 * B < 1099511627776) (hy : -B ≤ y) (hy' : y = 1099511627776 ∨ y ≤ B) (hz : -B ≤ z) (hz' : z = 1099511627776 ∨ z ≤ B) :
    hfar x y z = if y < 1099511627776 ∧ z < 1099511627776 ∧ y + z < x then y + z else x := by
  unfold hfar
  by_cases q : y < 1099511627776 ∧ z < 1099511627776
  · rw [if_pos q, wr_id (by omega) (by omega), imin_eq]
    by_cases r : y + z < x
    · rw [if_pos r, if_pos ⟨q.1, q.2, r⟩]
    · rw [if_neg r, if_neg (by omega)]
  · rw [if_neg q, if_neg (by omega)]
theorem Fine.val {n c : Nat} {B : Int} {F : Tb} (h : Fine n B F) (hB : 2 * B < 1099511627776) (hc : c < n) {x y : Nat} (hx : x < n) (hy : y < n) :
    phs hfar n c F x y = if F x c < 1099511627776 ∧ F c y < 1099511627776 ∧ F x c + F c y < F x y then F x c + F c y else F x y := by
  have e : phs hfar n c F = phsT hfar n c n F := phs_eq hc
    (fun y hy => by rw [hfar_val hB (h.lo c c hc hc) (h.up c c hc hc) (h.lo c y hc hy) (h.up c y hc hy), h.zero c hc, if_neg (by omega)])
    (fun x hx => by rw [hfar_val hB (h.lo x c hx hc) (h.up x c hx hc) (h.lo c c hc hc) (h.up c c hc hc), h.zero c hc, if_neg (by omega)]) n (Nat.le_refl _)
  rw [e]
  unfold phsT
  rw [if_pos ⟨hx, hy⟩, hfar_val hB (h.lo x c hx hc) (h.up x c hx hc) (h.lo c y hc hy) (h.up c y hc hy)]
theorem Fine.next {n c : Nat} {B : Int} {F : Tb} (h : Fine n B F) (h0 : 0 ≤ B) (hB : 2 * B < 1099511627776) (hc : c < n) (hd : ∀ x, x < n → 0 ≤ phs hfar n c F x x) : Fine n (2 * B) (phs hfar n c F) := by
  refine ⟨fun a ha => ?_, fun a b ha hb => ?_, fun a b ha hb => ?_, fun a b ha hb => ?_⟩
  · have h1 := hd a ha
    rw [h.val hB hc ha ha] at h1 ⊢
    have := h.zero a ha
    split
    · rename_i q; rw [if_pos q] at h1; omega
    · exact this
  · rw [h.val hB hc ha hb]
    have := h.up a b ha hb; have := h.up a c ha hc; have := h.up c b hc hb
    split <;> omega
  · rw [h.val hB hc ha hb]
    have := h.lo a b ha hb; have := h.lo a c ha hc; have := h.lo c b hc hb
    split <;> omega
  · rw [h.val hB hc ha hb, h.val hB hc hb ha]
    have := h.up b c hb hc; have := h.up c a hc ha
    have s1 := h.sym a b ha hb; have s2 := h.sym a c ha hc; have s3 := h.sym c b hc hb
    intro hlt
    split at hlt <;> split <;> omega
theorem Fine.tr {n : Nat} {B : Int} {F G : Tb} (h : Fine n B F) (hG : ∀ x y, x < n → y < n → G x y = F y x) : Fine n B G := by
  refine ⟨fun a ha => ?_, fun a b ha hb => ?_, fun a b ha hb => ?_, fun a b ha hb => ?_⟩
  · rw [hG a a ha ha]; exact h.zero a ha
  · rw [hG a b ha hb]; exact h.up b a hb ha
  · rw [hG a b ha hb]; exact h.lo b a hb ha
  · rw [hG a b ha hb, hG b a hb ha]; exact h.sym b a hb ha
theorem Fine.tr_next {n c : Nat} {B : Int} {F G : Tb} (h : Fine n B F) (hG : ∀ x y, x < n → y < n → G x y = F y x) (hB : 2 * B < 1099511627776) (hc : c < n) {x y : Nat} (hx : x < n) (hy : y < n) : phs hfar n c G x y = phs hfar n c F y x := by
  rw [(h.tr hG).val hB hc hx hy, h.val hB hc hy hx, hG x c hx hc, hG c y hc hy, hG x y hx hy]
  by_cases q : F c x < 1099511627776 ∧ F y c < 1099511627776 ∧ F c x + F y c < F y x
  · rw [if_pos q, if_pos (by omega)]; omega
  · rw [if_neg q, if_neg (by omega)]
theorem itr_le {g : Nat → Tb → Tb} (hg : ∀ j F x y, g j F x y ≤ F x y) : ∀ k F x y, itr g k F x y ≤ F x y
  | 0, F, x, y => Int.le_refl _
  | k + 1, F, x, y => Int.le_trans (hg k _ x y) (itr_le hg k F x y)
theorem itr_le_from {g : Nat → Tb → Tb} (hg : ∀ j F x y, g j F x y ≤ F x y) (F : Tb) (x y c : Nat) : ∀ d, itr g (c + d) F x y ≤ itr g c F x y
  | 0 => Int.le_refl _
  | d + 1 => Int.le_trans (hg (c + d) _ x y) (itr_le_from hg F x y c d)
theorem phs_le (n c : Nat) (F : Tb) (x y : Nat) : phs hfar n c F x y ≤ F x y := by
  unfold phs
  refine itr_le (fun a F x y => ?_) n F x y
  unfold rowp
  refine itr_le (fun b F x y => ?_) n F x y
  unfold stp updM
  split
  · rename_i q; rw [q.1, q.2]; exact hfar_le _ _ _
  · exact Int.le_refl _
/-- The table behind c phases. -/
def clF (n : Nat) (F : Tb) (c : Nat) : Tb := itr (fun c F => phs hfar n c F) c F
theorem clF_succ (n : Nat) (F : Tb) (c : Nat) : clF n F (c + 1) = phs hfar n c (clF n F c) := rfl
theorem clF_le (n : Nat) (F : Tb) {c d : Nat} (h : c ≤ d) (x y : Nat) : clF n F d x y ≤ clF n F c x y := by
  have := itr_le_from (g := fun c F => phs hfar n c F) (fun j F x y => phs_le n j F x y) F x y c (d - c)
  rwa [Nat.add_sub_cancel' h] at this
def dbl : Nat → Int
  | 0 => 1074790400
  | c + 1 => 2 * dbl c
theorem dbl_ok {c : Nat} (h : c < 8) : 0 ≤ dbl c ∧ 2 * dbl c < 1099511627776 := by
  have : c = 0 ∨ c = 1 ∨ c = 2 ∨ c = 3 ∨ c = 4 ∨ c = 5 ∨ c = 6 ∨ c = 7 := by omega
  rcases this with rfl | rfl | rfl | rfl | rfl | rfl | rfl | rfl <;> decide
def noClash (n : Nat) (F : Tb) (c : Nat) : Bool := (List.range n).all fun x => !decide (clF n F c x x < 0)
theorem noClash_iff {n : Nat} {F : Tb} {c : Nat} : noClash n F c = true ↔ ∀ x, x < n → 0 ≤ clF n F c x x := by
  unfold noClash
  rw [List.all_eq_true]
  exact ⟨fun h x hx => by have := h x (List.mem_range.2 hx); simpa using this, fun h x hx => by have := h x (List.mem_range.1 hx); simpa using this⟩
theorem both {n : Nat} (hn : n ≤ 8) {R T : Tb} (hR : Fine n 1074790400 R) (hT : ∀ x y, x < n → y < n → T x y = R y x) :
    ∀ c, c ≤ n → (∀ j, j < c → noClash n R (j + 1) = true) → Fine n (dbl c) (clF n R c) ∧ ∀ x y, x < n → y < n → clF n T c x y = clF n R c y x
  | 0, _, _ => ⟨hR, hT⟩
  | c + 1, hc, hj => by
    obtain ⟨h1, h2⟩ := both hn hR hT c (by omega) fun j h => hj j (by omega)
    obtain ⟨b1, b2⟩ := dbl_ok (c := c) (by omega)
    refine ⟨h1.next b1 b2 (by omega) (noClash_iff.1 (hj c (by omega))), fun x y hx hy => ?_⟩
    exact h1.tr_next h2 b2 (by omega) hx hy
theorem first_false {p : Nat → Bool} : ∀ {n : Nat}, (List.range n).all p = false → ∃ c, c < n ∧ p c = false ∧ ∀ j, j < c → p j = true
  | 0, h => by simp at h
  | n + 1, h => by
    by_cases q : (List.range n).all p = true
    · refine ⟨n, by omega, ?_, fun j hj => (List.all_eq_true.1 q) j (List.mem_range.2 hj)⟩
      rw [List.range_succ, List.all_append, q] at h
      simpa using h
    · obtain ⟨c, h1, h2, h3⟩ := first_false (p := p) (n := n) (by simpa using q)
      exact ⟨c, by omega, h2, h3⟩
/-- Both ways to look for a clash find it, and the answers are the same. -/
theorem clash_same {n : Nat} (hn : n ≤ 8) {R T : Tb} (hR : Fine n 1074790400 R) (hT : ∀ x y, x < n → y < n → T x y = R y x) :
    ((List.range n).all fun c => noClash n R (c + 1)) = noClash n T n ∧ (noClash n T n = true → Fine n (dbl n) (clF n R n) ∧ ∀ x y, x < n → y < n → clF n T n x y = clF n R n y x) := by
  by_cases q : ((List.range n).all fun c => noClash n R (c + 1)) = true
  · have hall : ∀ j, j < n → noClash n R (j + 1) = true := fun j hj => (List.all_eq_true.1 q) j (List.mem_range.2 hj)
    have hb := both hn hR hT n (Nat.le_refl _) hall
    refine ⟨?_, fun _ => hb⟩
    rw [q]
    symm
    rw [noClash_iff]
    intro x hx
    rw [hb.2 x x hx hx, hb.1.zero x hx]; exact Int.le_refl _
  · rw [Bool.not_eq_true] at q
    obtain ⟨c, hc, h2, h3⟩ := first_false q
    obtain ⟨g1, g2⟩ := both hn hR hT c (by omega) h3
    obtain ⟨b1, b2⟩ := dbl_ok (c := c) (by omega)
    have hx : ∃ x, x < n ∧ clF n R (c + 1) x x < 0 := by
      unfold noClash at h2
      rw [List.all_eq_false] at h2
      obtain ⟨x, hx, hq⟩ := h2
      exact ⟨x, List.mem_range.1 hx, by simpa using hq⟩
    obtain ⟨x, hx, hlt⟩ := hx
    have hT2 : clF n T n x x < 0 := by
      refine Int.lt_of_le_of_lt (clF_le n T (show c + 1 ≤ n by omega) x x) ?_
      rw [clF_succ, g1.tr_next g2 b2 hc hx hx]
      exact hlt
    have : noClash n T n = false := by
      rw [← Bool.not_eq_true, noClash_iff]
      intro h
      have := h x hx
      omega
    rw [q, this]
    exact ⟨rfl, fun h => by cases h⟩

/-! ### potentials, and widths -/
def Feas (n : Nat) (q : Nat → Int) (F : Tb) : Prop := ∀ x y, x < n → y < n → q y - q x ≤ F x y
theorem Feas.next {n c : Nat} {B : Int} {F : Tb} {q : Nat → Int} (hq : Feas n q F) (h : Fine n B F) (hB : 2 * B < 1099511627776) (hc : c < n) : Feas n q (phs hfar n c F) := by
  intro x y hx hy
  rw [h.val hB hc hx hy]
  have := hq x y hx hy; have := hq x c hx hc; have := hq c y hc hy
  split <;> omega
theorem half_val {n c : Nat} {S F : Tb} (hc : c < n) (h : Half n c S F) {a b : Nat} (ha : a < n) (hb : b < n) : phs hmin n c F a b = if F a c + F c b < F a b then F a c + F c b else F a b := by
  have e : phs hmin n c F = phsT hmin n c n F := phs_eq hc (fun y hy => by rw [hmin_eq (h.nonneg _ _ hc hc) (h.far _ _ hc hc) (h.nonneg _ _ hc hy) (h.far _ _ hc hy), h.zero c hc, if_neg (by omega)])
    (fun x hx => by rw [hmin_eq (h.nonneg _ _ hx hc) (h.far _ _ hx hc) (h.nonneg _ _ hc hc) (h.far _ _ hc hc), h.zero c hc, if_neg (by omega)]) n (Nat.le_refl _)
  rw [e]
  unfold phsT
  rw [if_pos ⟨ha, hb⟩, hmin_eq (h.nonneg _ _ ha hc) (h.far _ _ ha hc) (h.nonneg _ _ hc hb) (h.far _ _ hc hb)]
def Under (n : Nat) (W F : Tb) : Prop := ∀ x y, x < n → y < n → W x y < 1099511627776 → F x y < 1099511627776 ∧ F y x < 1099511627776 ∧ F x y + F y x ≤ W x y
theorem Under.next {n c : Nat} {B : Int} {S W F : Tb} (hu : Under n W F) (h : Fine n B F) (hB : 2 * B < 1099511627776) (hc : c < n) (hw : Half n c S W) : Under n (phs hmin n c W) (phs hfar n c F) := by
  intro x y hx hy
  rw [half_val hc hw hx hy, h.val hB hc hx hy, h.val hB hc hy hx]
  have n1 := hw.nonneg x c hx hc; have n2 := hw.nonneg c y hc hy
  have u1 := hu x y hx hy; have u2 := hu x c hx hc; have u3 := hu c y hc hy
  have := h.up x c hx hc; have := h.up c y hc hy; have := h.up y c hy hc; have := h.up c x hc hx
  split
  · rename_i q
    intro hlt
    have u2 := u2 (by omega)
    have u3 := u3 (by omega)
    split <;> split <;> omega
  · intro hlt
    have u1 := u1 hlt
    split <;> split <;> omega
theorem spans_hold {n : Nat} (hn : n ≤ 8) {S W R : Tb} {q : Nat → Int} (hW : Half n 0 S W) (hR : Fine n 1074790400 R) (hu : Under n W R) (h0 : Feas n (fun _ => 0) R) (hq : Feas n q R) :
    ∀ c, c ≤ n → (∀ j, j < c → noClash n R (j + 1) = true) ∧ Fine n (dbl c) (clF n R c) ∧ Under n (itr (fun c F => phs hmin n c F) c W) (clF n R c) ∧ Feas n (fun _ => 0) (clF n R c) ∧ Feas n q (clF n R c)
  | 0, _ => ⟨fun j hj => absurd hj (by omega), hR, hu, h0, hq⟩
  | c + 1, hc => by
    obtain ⟨g1, g2, g3, g4, g5⟩ := spans_hold hn hW hR hu h0 hq c (by omega)
    obtain ⟨b1, b2⟩ := dbl_ok (c := c) (by omega)
    have k4 := g4.next g2 b2 (c := c) (by omega)
    have hd : ∀ x, x < n → 0 ≤ phs hfar n c (clF n R c) x x := fun x hx => by have := k4 x x hx hx; simpa using this
    refine ⟨fun j hj => ?_, g2.next b1 b2 (by omega) hd, g3.next g2 b2 (by omega) (hW.all c (by omega)), k4, g5.next g2 b2 (by omega)⟩
    by_cases e : j = c
    · subst e; exact noClash_iff.2 hd
    · exact g1 j (by omega)
end Go.Proofs.Ytkbilbeaedocjaa
