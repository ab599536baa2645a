/-
  What is proved: plain laws on the words that models are made of: loops, tables of numbers, bits.
  closing a table of numbers by ways over third places: what the result is; ways and their lengths.
  loops by the states behind each round: with and without ways out; lists of bits; words on bits.
-/
import Derived.Test.YtnnhmgcigoiceaaGreatDoorPrim
import Derived.IntWalk
namespace Go.Proofs.YtnnhmgcigoiceaaGreatDoor.Wh
open Go

/-! ### loops -/
theorem bnd {α β : Type} {x : Option α} {y : α} {f : α → Option β} {z : Option β} (h : x = some y) (k : f y = z) : (x >>= f) = z := by rw [h]; exact k
def itr {σ : Type} (g : Nat → σ → σ) : Nat → σ → σ
  | 0, s => s
  | k + 1, s => g k (itr g k s)
/-! ### numbers as they are -/
theorem wr_id {n : Int} (h1 : -9223372036854775808 ≤ n) (h2 : n ≤ 9223372036854775807) : wr n = n := by
  unfold wr
  exact IntWalk.i64_in n ⟨h1, h2⟩
theorem idx_nat {α : Type} (xs : List α) (k : Nat) : idx xs (k : Int) = xs[k]? := by
  unfold idx
  rw [if_neg (by omega)]
  rfl
/-! ### tables -/
def updM (F : Nat → Nat → Int) (i j : Nat) (z : Int) : Nat → Nat → Int := fun a b => if a = i ∧ b = j then z else F a b
/-! ### bits -/
end Go.Proofs.YtnnhmgcigoiceaaGreatDoor.Wh

namespace Go.Proofs.YtnnhmgcigoiceaaGreatDoor.Wh
open Go

/-! ### one phase -/
def stp (h : Int → Int → Int → Int) (c a b : Nat) (F : Nat → Nat → Int) : Nat → Nat → Int := updM F a b (h (F a b) (F a c) (F c b))
def rowp (h : Int → Int → Int → Int) (n c a : Nat) (F : Nat → Nat → Int) : Nat → Nat → Int := itr (fun b F => stp h c a b F) n F
def phs (h : Int → Int → Int → Int) (n c : Nat) (F : Nat → Nat → Int) : Nat → Nat → Int := itr (fun a F => rowp h n c a F) n F
def cls (h : Int → Int → Int → Int) (n : Nat) (F : Nat → Nat → Int) : Nat → Nat → Int := itr (fun c F => phs h n c F) n F
def rowT (h : Int → Int → Int → Int) (c a j : Nat) (F : Nat → Nat → Int) : Nat → Nat → Int := fun x y => if x = a ∧ y < j then h (F x y) (F x c) (F c y) else F x y
def phsT (h : Int → Int → Int → Int) (n c i : Nat) (F : Nat → Nat → Int) : Nat → Nat → Int := fun x y => if x < i ∧ y < n then h (F x y) (F x c) (F c y) else F x y
theorem rowp_eq {h : Int → Int → Int → Int} {n c a : Nat} {F : Nat → Nat → Int} (h2 : h (F a c) (F a c) (F c c) = F a c) (h1 : a = c → ∀ y, y < n → h (F c y) (F c c) (F c y) = F c y) : ∀ j, j ≤ n → itr (fun b F => stp h c a b F) j F = rowT h c a j F
  | 0, _ => by funext x y; simp [itr, rowT]
  | j + 1, hj => by
    simp only [itr]
    rw [rowp_eq h2 h1 j (by omega)]
    funext x y
    unfold stp updM
    have e1 : rowT h c a j F a j = F a j := by unfold rowT; rw [if_neg (by omega)]
    have e2 : rowT h c a j F a c = F a c := by unfold rowT; split
                                               · exact h2
                                               · rfl
    have e3 : rowT h c a j F c j = F c j := by unfold rowT; rw [if_neg (by omega)]
    rw [e1, e2, e3]
    unfold rowT
    by_cases q : x = a ∧ y = j
    · obtain ⟨rfl, rfl⟩ := q
      rw [if_pos ⟨rfl, rfl⟩, if_pos (by omega)]
    · rw [if_neg q]
      by_cases q2 : x = a ∧ y < j
      · rw [if_pos q2, if_pos (by omega)]
      · rw [if_neg q2, if_neg (by omega)]
theorem phs_eq {h : Int → Int → Int → Int} {n c : Nat} {F : Nat → Nat → Int} (hc : c < n) (h1 : ∀ y, y < n → h (F c y) (F c c) (F c y) = F c y) (h2 : ∀ x, x < n → h (F x c) (F x c) (F c c) = F x c) : ∀ i, i ≤ n → itr (fun a F => rowp h n c a F) i F = phsT h n c i F
  | 0, _ => by funext x y; simp [itr, phsT]
  | i + 1, hi => by
    simp only [itr]
    rw [phs_eq hc h1 h2 i (by omega)]
    have ec : ∀ y, phsT h n c i F c y = F c y := fun y => by
      unfold phsT; split
      · rename_i q; exact h1 y q.2
      · rfl
    have er : ∀ x, phsT h n c i F x c = F x c := fun x => by
      unfold phsT; split
      · rename_i q; exact h2 x (by omega)
      · rfl
    have ei : ∀ y, phsT h n c i F i y = F i y := fun y => by unfold phsT; rw [if_neg (by omega)]
    unfold rowp
    rw [rowp_eq (by rw [er, ec]; exact h2 i (by omega)) (fun e y hy => by subst e; rw [ec, ec]; exact h1 y hy) n (Nat.le_refl _)]
    funext x y
    unfold rowT
    by_cases q : x = i ∧ y < n
    · obtain ⟨rfl, q⟩ := q
      rw [if_pos ⟨rfl, q⟩, ei, er, ec]
      unfold phsT
      rw [if_pos (by omega)]
    · rw [if_neg q]
      unfold phsT
      by_cases q2 : x < i ∧ y < n
      · rw [if_pos q2, if_pos (by omega)]
      · rw [if_neg q2, if_neg (by omega)]

/-! ### ways -/
def far : Int := 1099511627776
/-- A way from a to b in so many steps, and what it adds up to. -/
inductive Walk (n : Nat) (S : Nat → Nat → Int) (a : Nat) : Nat → Nat → Int → Prop
  | nil : a < n → Walk n S a a 0 0
  | step {x b k : Nat} {v : Int} : Walk n S a x k v → b < n → S x b < far → Walk n S a b (k + 1) (v + S x b)
theorem Walk.ends {n : Nat} {S : Nat → Nat → Int} {a b k : Nat} {v : Int} (h : Walk n S a b k v) : a < n ∧ b < n := by
  induction h with
  | nil h => exact ⟨h, h⟩
  | step _ hb _ ih => exact ⟨ih.1, hb⟩
theorem Walk.trans {n : Nat} {S : Nat → Nat → Int} {a b c j k : Nat} {u v : Int} (h : Walk n S a b j u) (h' : Walk n S b c k v) : Walk n S a c (j + k) (u + v) := by
  induction h' with
  | nil _ => rw [Int.add_zero]; exact h
  | step _ hb hs ih => rw [← Nat.add_assoc, ← Int.add_assoc]; exact .step ih hb hs
theorem Walk.le {n : Nat} {S E : Nat → Nat → Int} (hS : ∀ a b, a < n → b < n → E a b ≤ S a b) (h0 : ∀ a, a < n → E a a ≤ 0) (ht : ∀ a b c, a < n → b < n → c < n → E a c ≤ E a b + E b c) {a b k : Nat} {v : Int} (h : Walk n S a b k v) : E a b ≤ v := by
  induction h with
  | nil h => exact h0 _ h
  | step hw hb hs ih =>
    have h1 := ht _ _ _ hw.ends.1 hw.ends.2 hb
    have h2 := hS _ _ hw.ends.2 hb
    omega
theorem Walk.mono {n : Nat} {S S' : Nat → Nat → Int} (hS : ∀ a b, a < n → b < n → S a b < far → S' a b = S a b) {a b k : Nat} {v : Int} (h : Walk n S a b k v) : Walk n S' a b k v := by
  induction h with
  | nil h => exact .nil h
  | step hw hb hs ih =>
    have e := hS _ _ hw.ends.2 hb hs
    rw [← e]
    exact .step ih hb (by rw [e]; exact hs)
theorem Walk.one {n : Nat} {S : Nat → Nat → Int} {a b : Nat} (ha : a < n) (hb : b < n) (h : S a b < far) : Walk n S a b 1 (S a b) := by
  have := Walk.step (.nil ha) hb h
  rwa [Int.zero_add] at this
theorem Walk.nonneg {n : Nat} {S : Nat → Nat → Int} (hS : ∀ a b, a < n → b < n → 0 ≤ S a b) {a b k : Nat} {v : Int} (h : Walk n S a b k v) : 0 ≤ v := by
  induction h with
  | nil h => exact Int.le_refl _
  | step hw hb hs ih =>
    have := hS _ _ hw.ends.2 hb
    omega
theorem Walk.zero {n : Nat} {S : Nat → Nat → Int} {a b : Nat} {v : Int} (h : Walk n S a b 0 v) : a = b ∧ v = 0 := by
  cases h; exact ⟨rfl, rfl⟩
theorem Walk.last {n : Nat} {S : Nat → Nat → Int} {a b k : Nat} {v : Int} (h : Walk n S a b (k + 1) v) : ∃ x u, Walk n S a x k u ∧ S x b < far ∧ v = u + S x b ∧ b < n := by
  cases h with
  | step hw hb hs => exact ⟨_, _, hw, hs, rfl, hb⟩
/-! ### the closure of a table of steps of at least 0 -/
structure Cl (n : Nat) (S D : Nat → Nat → Int) : Prop where
  zero : ∀ a, a < n → D a a = 0
  nonneg : ∀ a b, a < n → b < n → 0 ≤ D a b
  far : ∀ a b, a < n → b < n → D a b ≤ far
  le : ∀ a b, a < n → b < n → D a b ≤ S a b
  tri : ∀ a b c, a < n → b < n → c < n → D a c ≤ D a b + D b c
  att : ∀ a b, a < n → b < n → D a b < Wh.far → ∃ k, Walk n S a b k (D a b)
theorem Cl.lb {n : Nat} {S D E : Nat → Nat → Int} (h : Cl n S D) (hS : ∀ a b, a < n → b < n → E a b ≤ S a b) (h0 : ∀ a, a < n → E a a ≤ 0) (ht : ∀ a b c, a < n → b < n → c < n → E a c ≤ E a b + E b c) (hf : ∀ a b, a < n → b < n → E a b ≤ Wh.far) {a b : Nat} (ha : a < n) (hb : b < n) : E a b ≤ D a b := by
  by_cases q : D a b < Wh.far
  · obtain ⟨k, hw⟩ := h.att a b ha hb q
    exact hw.le hS h0 ht
  · have := hf a b ha hb
    omega
theorem Cl.walk {n : Nat} {S D : Nat → Nat → Int} (h : Cl n S D) {a b k : Nat} {v : Int} (hw : Walk n S a b k v) : D a b ≤ v :=
  hw.le h.le (fun a ha => Int.le_of_eq (h.zero a ha)) h.tri
/-- Two closures of the same steps. -/
theorem Cl.uniq {n : Nat} {S D D' : Nat → Nat → Int} (h : Cl n S D) (h' : Cl n S D') {a b : Nat} (ha : a < n) (hb : b < n) : D a b = D' a b := by
  have h1 := h'.lb h.le (fun a ha => Int.le_of_eq (h.zero a ha)) h.tri h.far ha hb
  have h2 := h.lb h'.le (fun a ha => Int.le_of_eq (h'.zero a ha)) h'.tri h'.far ha hb
  omega
/-- Shorter steps, shorter ways. -/
theorem Cl.mono {n : Nat} {S S' D D' : Nat → Nat → Int} (h : Cl n S D) (h' : Cl n S' D') (hS : ∀ a b, a < n → b < n → S' a b ≤ S a b) {a b : Nat} (ha : a < n) (hb : b < n) : D' a b ≤ D a b :=
  h.lb (fun a b ha hb => Int.le_trans (h'.le a b ha hb) (hS a b ha hb)) (fun a ha => Int.le_of_eq (h'.zero a ha)) h'.tri h'.far ha hb

/-- What a table is, of which the ways over the places below c are closed. -/
structure Half (n c : Nat) (S F : Nat → Nat → Int) : Prop where
  zero : ∀ a, a < n → F a a = 0
  nonneg : ∀ a b, a < n → b < n → 0 ≤ F a b
  far : ∀ a b, a < n → b < n → F a b ≤ far
  le : ∀ a b, a < n → b < n → F a b ≤ S a b
  tri : ∀ a b k, a < n → b < n → k < c → F a b ≤ F a k + F k b
  att : ∀ a b, a < n → b < n → F a b < Wh.far → ∃ k, Walk n S a b k (F a b)
def hmin (x y z : Int) : Int := if wr (y + z) < x then wr (y + z) else x
theorem hmin_eq {x y z : Int} (hy : 0 ≤ y) (hy' : y ≤ far) (hz : 0 ≤ z) (hz' : z ≤ far) : hmin x y z = if y + z < x then y + z else x := by
  unfold hmin far at *
  rw [wr_id (by omega) (by omega)]
theorem Half.next {n c : Nat} {S F : Nat → Nat → Int} (hc : c < n) (h : Half n c S F) : Half n (c + 1) S (phs hmin n c F) := by
  have hm : ∀ x y z k, x < n → y < n → z < n → k < n → hmin (F x y) (F x z) (F z k) = if F x z + F z k < F x y then F x z + F z k else F x y :=
    fun x y z k hx hy hz hk => hmin_eq (h.nonneg _ _ hx hz) (h.far _ _ hx hz) (h.nonneg _ _ hz hk) (h.far _ _ hz hk)
  have e : phs hmin n c F = phsT hmin n c n F := phs_eq hc (fun y hy => by rw [hmin_eq (h.nonneg _ _ hc hc) (h.far _ _ hc hc) (h.nonneg _ _ hc hy) (h.far _ _ hc hy), h.zero c hc, if_neg (by omega)])
    (fun x hx => by rw [hmin_eq (h.nonneg _ _ hx hc) (h.far _ _ hx hc) (h.nonneg _ _ hc hc) (h.far _ _ hc hc), h.zero c hc, if_neg (by omega)]) n (Nat.le_refl _)
  have ev : ∀ a b, a < n → b < n → phs hmin n c F a b = if F a c + F c b < F a b then F a c + F c b else F a b := fun a b ha hb => by
    rw [e]; unfold phsT; rw [if_pos ⟨ha, hb⟩, hm a b c b ha hb hc hb]
  refine ⟨fun a ha => ?_, fun a b ha hb => ?_, fun a b ha hb => ?_, fun a b ha hb => ?_, fun a b k ha hb hk => ?_, fun a b ha hb => ?_⟩
  · rw [ev a a ha ha]
    have := h.zero a ha; have := h.nonneg a c ha hc; have := h.nonneg c a hc ha
    rw [if_neg (by omega)]; assumption
  · rw [ev a b ha hb]
    have := h.nonneg a b ha hb; have := h.nonneg a c ha hc; have := h.nonneg c b hc hb
    split <;> omega
  · rw [ev a b ha hb]
    have := h.far a b ha hb
    split <;> omega
  · rw [ev a b ha hb]
    have := h.le a b ha hb
    split <;> omega
  · have hk' : k < n := by omega
    rw [ev a b ha hb, ev a k ha hk', ev k b hk' hb]
    have n1 := h.nonneg a c ha hc
    have n2 := h.nonneg c b hc hb
    by_cases q : k = c
    · subst q
      have := h.zero k hk'
      split <;> split <;> split <;> omega
    · have hk2 : k < c := by omega
      have t1 := h.tri a b k ha hb hk2
      have t2 := h.tri a c k ha hc hk2
      have t3 := h.tri c b k hc hb hk2
      have n3 := h.nonneg c k hc hk'
      have n4 := h.nonneg k c hk' hc
      split <;> split <;> split <;> omega
  · rw [ev a b ha hb]
    split
    · rename_i q
      intro hlt
      have n1 := h.nonneg a c ha hc
      have n2 := h.nonneg c b hc hb
      obtain ⟨k1, w1⟩ := h.att a c ha hc (by omega)
      obtain ⟨k2, w2⟩ := h.att c b hc hb (by omega)
      exact ⟨_, w1.trans w2⟩
    · exact h.att a b ha hb
theorem Half.all {n : Nat} {S F : Nat → Nat → Int} (h : Half n 0 S F) : ∀ c, c ≤ n → Half n c S (itr (fun c F => phs hmin n c F) c F)
  | 0, _ => h
  | c + 1, hc => (h.all c (by omega)).next (by omega)
theorem Half.cl {n : Nat} {S F : Nat → Nat → Int} (h : Half n 0 S F) : Cl n S (cls hmin n F) := by
  have := h.all n (Nat.le_refl _)
  exact ⟨this.zero, this.nonneg, this.far, this.le, fun a b c ha hb hc => this.tri a c b ha hc hb, this.att⟩
/-! ### the fewest steps -/
theorem nodup_le : ∀ (n : Nat) (l : List Nat), l.Nodup → (∀ x ∈ l, x < n) → l.length ≤ n
  | 0, l, _, h => by
    cases l with
    | nil => simp
    | cons x _ => exact absurd (h x (by simp)) (by omega)
  | n + 1, l, hd, h => by
    by_cases q : n ∈ l
    · have h1 := nodup_le n (l.erase n) (hd.erase n) (fun x hx => by
        have h2 := h x (List.mem_of_mem_erase hx)
        have h3 : x ≠ n := fun e => by subst e; exact (List.Nodup.not_mem_erase hd) hx
        omega)
      rw [List.length_erase_of_mem q] at h1
      have := List.length_pos_of_mem q
      omega
    · have := nodup_le n l hd (fun x hx => by
        have h2 := h x hx
        have h3 : x ≠ n := fun e => by subst e; exact q hx
        omega)
      omega
/-- A least way, in the fewest steps: its places have each another number of fewest steps. -/
def Few (n : Nat) (S D : Nat → Nat → Int) (a b k : Nat) : Prop := Walk n S a b k (D a b) ∧ ∀ j, j < k → ¬ Walk n S a b j (D a b)
theorem Few.uniq {n : Nat} {S D : Nat → Nat → Int} {a b j k : Nat} (h : Few n S D a b j) (h' : Few n S D a b k) : j = k := by
  rcases Nat.lt_trichotomy j k with q | q | q
  · exact absurd h.1 (h'.2 j q)
  · exact q
  · exact absurd h'.1 (h.2 k q)
theorem Few.last {n : Nat} {S D : Nat → Nat → Int} (hc : Cl n S D) {a b k : Nat} (h : Few n S D a b (k + 1)) : ∃ x, Few n S D a x k ∧ S x b < far ∧ D a b = D a x + S x b ∧ x < n := by
  obtain ⟨x, u, hw, hs, hv, hb⟩ := h.1.last
  have ha := hw.ends.1
  have hx := hw.ends.2
  have h1 := hc.walk hw
  have h2 := hc.tri a x b ha hx hb
  have h3 := hc.le x b hx hb
  have e : u = D a x := by omega
  subst e
  refine ⟨x, ⟨hw, fun j hj hw' => ?_⟩, hs, hv, hx⟩
  have := Walk.step hw' hb hs
  rw [← hv] at this
  exact h.2 (j + 1) (by omega) this
theorem Few.lt {n : Nat} {S D : Nat → Nat → Int} (hc : Cl n S D) {a b k : Nat} (h : Few n S D a b k) : k < n := by
  -- a place for each number of steps
  have q : ∀ k b, Few n S D a b k → ∃ l : List Nat, l.length = k + 1 ∧ l.Nodup ∧ ∀ x ∈ l, x < n ∧ ∃ j, j ≤ k ∧ Few n S D a x j := by
    intro k
    induction k with
    | zero => intro b h; exact ⟨[b], rfl, by simp, fun x hx => by simp at hx; subst hx; exact ⟨h.1.ends.2, 0, Nat.le_refl _, h⟩⟩
    | succ k ih =>
      intro b h
      obtain ⟨x, hx, _⟩ := h.last hc
      obtain ⟨l, h1, h2, h3⟩ := ih x hx
      refine ⟨b :: l, by simp [h1], ?_, fun y hy => ?_⟩
      · rw [List.nodup_cons]
        refine ⟨fun hb => ?_, h2⟩
        obtain ⟨_, j, hj, hf⟩ := h3 b hb
        have := hf.uniq h
        omega
      · rcases List.mem_cons.1 hy with rfl | hy
        · exact ⟨h.1.ends.2, k + 1, Nat.le_refl _, h⟩
        · obtain ⟨h4, j, hj, hf⟩ := h3 y hy
          exact ⟨h4, j, by omega, hf⟩
  obtain ⟨l, h1, h2, h3⟩ := q k b h
  have := nodup_le n l h2 (fun x hx => (h3 x hx).1)
  omega
end Go.Proofs.YtnnhmgcigoiceaaGreatDoor.Wh

namespace Go.Proofs.YtnnhmgcigoiceaaGreatDoor.Wh
open Go

/-! ### bits -/
/-! ### an order of lists -/
/-! ### the least of those that do -/
/-! ### the first that is so -/
end Go.Proofs.YtnnhmgcigoiceaaGreatDoor.Wh
