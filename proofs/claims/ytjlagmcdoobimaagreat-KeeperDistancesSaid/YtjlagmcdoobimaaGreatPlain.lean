/-
  What is proved: plain laws on the words that models are made of: loops, tables of numbers, bits.
  closing a table of numbers by ways over third places: what the result is; ways and their lengths.
  loops by the states behind each round: with and without ways out; lists of bits; words on bits.
-/
import Derived.Test.YtjlagmcdoobimaaGreatPrim
import Derived.IntWalk
namespace Go.Proofs.YtjlagmcdoobimaaGreat.Wh
open Go

/-! ### loops -/
theorem bnd {α β : Type} {x : Option α} {y : α} {f : α → Option β} {z : Option β} (h : x = some y) (k : f y = z) : (x >>= f) = z := by rw [h]; exact k
def itr {σ : Type} (g : Nat → σ → σ) : Nat → σ → σ
  | 0, s => s
  | k + 1, s => g k (itr g k s)
theorem stepsFrom_map {σ τ : Type} {f : Int → σ → Option σ} {g : Nat → τ → τ} {emb : τ → σ} {t0 : τ} : ∀ (k i : Nat), (∀ j t, i ≤ j → j < i + k → f (j : Int) (emb t) = some (emb (g j t))) → stepsFrom f k (i : Int) (emb (itr g i t0)) = some (emb (itr g (i + k) t0))
  | 0, i, _ => rfl
  | k + 1, i, h => by
    unfold stepsFrom
    rw [h i _ (Nat.le_refl _) (by omega)]
    have := stepsFrom_map (t0 := t0) (g := g) (emb := emb) (f := f) k (i + 1) fun j t h1 h2 => h j t (by omega) (by omega)
    rw [show i + (k + 1) = i + 1 + k from by omega, ← this]
    simp only [itr]
    congr 1
theorem forS_map {σ τ : Type} {f : Int → σ → Option σ} (g : Nat → τ → τ) (emb : τ → σ) {N : Nat} {t0 : τ} (hN : N ≤ 4294967296) (h : ∀ j t, j < N → f (j : Int) (emb t) = some (emb (g j t))) : forS 0 (N : Int) (emb t0) f = some (emb (itr g N t0)) := by
  unfold forS
  rw [if_pos (by omega)]
  have := stepsFrom_map (t0 := t0) (g := g) (emb := emb) (f := f) N 0 fun j t _ h2 => h j t (by omega)
  rw [Nat.zero_add] at this
  rw [show ((N : Int) - 0).toNat = N from by omega]
  exact this
theorem stepsFrom_inv {σ : Type} {f : Int → σ → Option σ} (I : Nat → σ → Prop) : ∀ (k i : Nat) (s : σ), I i s → (∀ j s, i ≤ j → j < i + k → I j s → ∃ s', f (j : Int) s = some s' ∧ I (j + 1) s') → ∃ s', stepsFrom f k (i : Int) s = some s' ∧ I (i + k) s'
  | 0, i, s, h0, _ => ⟨s, rfl, h0⟩
  | k + 1, i, s, h0, h => by
    obtain ⟨s', h1, h2⟩ := h i s (Nat.le_refl _) (by omega) h0
    unfold stepsFrom
    rw [h1]
    obtain ⟨s'', h3, h4⟩ := stepsFrom_inv I k (i + 1) s' h2 fun j t q1 q2 => h j t (by omega) (by omega)
    exact ⟨s'', h3, by rw [show i + (k + 1) = i + 1 + k from by omega]; exact h4⟩
theorem forS_inv {σ : Type} {f : Int → σ → Option σ} (I : Nat → σ → Prop) {N : Nat} {s : σ} (hN : N ≤ 4294967296) (h0 : I 0 s) (h : ∀ j s, j < N → I j s → ∃ s', f (j : Int) s = some s' ∧ I (j + 1) s') : ∃ s', forS 0 (N : Int) s f = some s' ∧ I N s' := by
  unfold forS
  rw [if_pos (by omega)]
  have := stepsFrom_inv I N 0 s h0 fun j t _ h2 => h j t (by omega)
  simpa using this
def OutP {σ ρ : Type} (I : σ → Prop) (L : ρ → Prop) : Out σ ρ → Prop
  | .again s => I s
  | .leave r => L r
theorem forFrom_inv {σ ρ : Type} {f : Int → σ → Option (Out σ ρ)} (I : Nat → σ → Prop) (L : ρ → Prop) : ∀ (k i : Nat) (s : σ), I i s → (∀ j s, i ≤ j → j < i + k → I j s → ∃ o, f (j : Int) s = some o ∧ OutP (I (j + 1)) L o) → ∃ o, forFrom f k (i : Int) s = some o ∧ OutP (I (i + k)) L o
  | 0, i, s, h0, _ => ⟨.again s, rfl, h0⟩
  | k + 1, i, s, h0, h => by
    obtain ⟨o, h1, h2⟩ := h i s (Nat.le_refl _) (by omega) h0
    unfold forFrom
    rw [h1]
    cases o with
    | leave r => exact ⟨.leave r, rfl, h2⟩
    | again s' =>
      obtain ⟨o, h3, h4⟩ := forFrom_inv I L k (i + 1) s' h2 fun j t q1 q2 => h j t (by omega) (by omega)
      exact ⟨o, h3, by rw [show i + (k + 1) = i + 1 + k from by omega]; exact h4⟩
theorem forM_inv {σ ρ : Type} {f : Int → σ → Option (Out σ ρ)} (I : Nat → σ → Prop) (L : ρ → Prop) {N : Nat} {s : σ} (hN : N ≤ 4294967296) (h0 : I 0 s) (h : ∀ j s, j < N → I j s → ∃ o, f (j : Int) s = some o ∧ OutP (I (j + 1)) L o) : ∃ o, forM 0 (N : Int) s f = some o ∧ OutP (I N) L o := by
  unfold forM
  rw [if_pos (by omega)]
  have := forFrom_inv I L N 0 s h0 fun j t _ h2 => h j t (by omega)
  simpa using this
theorem loopM_inv {σ ρ : Type} {f : σ → Option (Out σ ρ)} (I : Nat → σ → Prop) (L : ρ → Prop) : ∀ (fuel m : Nat) (s : σ), m < fuel → I m s → (∀ m s, I m s → ∃ o, f s = some o ∧ OutP (fun s' => ∃ m', m' < m ∧ I m' s') L o) → ∃ r, loopM f fuel s = some r ∧ L r
  | 0, m, s, hm, _, _ => by omega
  | fuel + 1, m, s, hm, h0, h => by
    obtain ⟨o, h1, h2⟩ := h m s h0
    unfold loopM
    rw [h1]
    cases o with
    | leave r => exact ⟨r, rfl, h2⟩
    | again s' =>
      obtain ⟨m', hm', h3⟩ := h2
      exact loopM_inv I L fuel m' s' (by omega) h3 h
/-! ### numbers as they are -/
theorem wr_id {n : Int} (h1 : -9223372036854775808 ≤ n) (h2 : n ≤ 9223372036854775807) : wr n = n := by
  unfold wr
  exact IntWalk.i64_in n ⟨h1, h2⟩
theorem idx_nat {α : Type} (xs : List α) (k : Nat) : idx xs (k : Int) = xs[k]? := by
  unfold idx
  rw [if_neg (by omega)]
  rfl
/-! ### tables -/
def mat (n : Nat) (F : Nat → Nat → Int) : List (List Int) := (List.range n).map fun a => (List.range n).map fun b => F a b
def updM (F : Nat → Nat → Int) (i j : Nat) (z : Int) : Nat → Nat → Int := fun a b => if a = i ∧ b = j then z else F a b
theorem idx_mat {n : Nat} {F : Nat → Nat → Int} {i : Nat} (hi : i < n) : idx (mat n F) (i : Int) = some ((List.range n).map fun b => F i b) := by
  rw [idx_nat]
  simp [mat, hi]
theorem idx_row {n : Nat} {g : Nat → Int} {j : Nat} (hj : j < n) : idx ((List.range n).map g) (j : Int) = some (g j) := by
  rw [idx_nat]
  simp [hj]
theorem set1_row {n : Nat} {g : Nat → Int} {j : Nat} {z : Int} (hj : j < n) : set1 ((List.range n).map g) (j : Int) z = some ((List.range n).map fun b => if b = j then z else g b) := by
  unfold set1
  rw [if_neg (by omega), if_pos (by simpa using hj)]
  congr 1
  apply List.ext_getElem?
  intro q
  simp only [Int.toNat_natCast, List.getElem?_set, List.length_map, List.length_range, List.getElem?_map]
  by_cases hq : j = q
  · subst hq; simp [hj]
  · rw [if_neg hq]
    by_cases hqn : q < n
    · simp [hqn, show ¬ q = j from fun e => hq e.symm]
    · simp [hqn]
theorem set2_mat {n : Nat} {F : Nat → Nat → Int} {i j : Nat} {z : Int} (hi : i < n) (hj : j < n) : set2 (mat n F) (i : Int) (j : Int) z = some (mat n (updM F i j z)) := by
  unfold set2
  rw [idx_mat hi]
  simp only [Option.bind_eq_bind, Option.bind_some]
  rw [set1_row hj]
  simp only [Option.bind_some]
  unfold set1
  rw [if_neg (by omega), if_pos (by simpa [mat] using hi)]
  congr 1
  apply List.ext_getElem?
  intro q
  simp only [Int.toNat_natCast, mat, List.getElem?_set, List.length_map, List.length_range, List.getElem?_map, updM]
  by_cases hq : i = q
  · subst hq; simp [hi]
  · rw [if_neg hq]
    by_cases hqn : q < n
    · simp [hqn, show ¬ q = i from fun e => hq e.symm]
    · simp [hqn]
theorem mat_congr {n : Nat} {F G : Nat → Nat → Int} (h : ∀ a b, a < n → b < n → F a b = G a b) : mat n F = mat n G := by
  unfold mat
  apply List.map_congr_left
  intro a ha
  apply List.map_congr_left
  intro b hb
  exact h a b (by simpa using ha) (by simpa using hb)
/-! ### bits -/
theorem band_one (v : Nat) : band (v : Int) 1 = ((v % 2 : Nat) : Int) := by
  unfold band
  have h : (BitVec.ofInt 64 (v : Int) &&& BitVec.ofInt 64 1).toNat = v % 2 := by
    rw [BitVec.toNat_and]
    have h1 : (BitVec.ofInt 64 (v : Int)).toNat = v % 2 ^ 64 := by simp
    have h2 : (BitVec.ofInt 64 1).toNat = 1 := by decide
    rw [h1, h2, Nat.and_one_is_mod]
    omega
  rw [h]
  exact wr_id (by omega) (by omega)
theorem shr_nat {v i : Nat} (hi : i ≤ 64) : shr (v : Int) (i : Int) = some ((v / 2 ^ i : Nat) : Int) := by
  unfold shr
  rw [if_neg (by omega)]
  congr 1
  simp only [Int.toNat_natCast]
  rw [Nat.min_eq_left hi, Int.fdiv_eq_ediv_of_nonneg _ (Int.le_of_lt (Int.pow_pos (by decide)))]
  norm_cast
theorem bit_of {v i : Nat} : (band ((v / 2 ^ i : Nat) : Int) 1 == 1) = v.testBit i := by
  rw [band_one, Nat.testBit_eq_decide_div_mod_eq]
  generalize v / 2 ^ i % 2 = q
  apply Bool.eq_iff_iff.2
  simp
  omega
theorem shl_one {i : Nat} (hi : i ≤ 62) : shl 1 (i : Int) = some ((2 ^ i : Nat) : Int) := by
  unfold shl
  rw [if_neg (by omega)]
  congr 1
  simp only [Int.toNat_natCast]
  rw [Nat.min_eq_left (by omega), Int.one_mul]
  have h : (2 : Nat) ^ i ≤ 2 ^ 62 := Nat.pow_le_pow_right (by decide) hi
  have e : ((2 : Int) ^ i) = ((2 ^ i : Nat) : Int) := by norm_cast
  rw [e]
  generalize (2 : Nat) ^ i = q at *
  exact wr_id (by omega) (by omega)
end Go.Proofs.YtjlagmcdoobimaaGreat.Wh

namespace Go.Proofs.YtjlagmcdoobimaaGreat.Wh
open Go

/-! ### one phase -/
def stp (h : Int → Int → Int → Int) (c a b : Nat) (F : Nat → Nat → Int) : Nat → Nat → Int := updM F a b (h (F a b) (F a c) (F c b))
def rowp (h : Int → Int → Int → Int) (n c a : Nat) (F : Nat → Nat → Int) : Nat → Nat → Int := itr (fun b F => stp h c a b F) n F
def phs (h : Int → Int → Int → Int) (n c : Nat) (F : Nat → Nat → Int) : Nat → Nat → Int := itr (fun a F => rowp h n c a F) n F
def cls (h : Int → Int → Int → Int) (n : Nat) (F : Nat → Nat → Int) : Nat → Nat → Int := itr (fun c F => phs h n c F) n F
def rowT (h : Int → Int → Int → Int) (c a j : Nat) (F : Nat → Nat → Int) : Nat → Nat → Int := fun x y => if x = a ∧ y < j then h (F x y) (F x c) (F c y) else F x y
def phsT (h : Int → Int → Int → Int) (n c i : Nat) (F : Nat → Nat → Int) : Nat → Nat → Int := fun x y => if x < i ∧ y < n then h (F x y) (F x c) (F c y) else F x y
theorem rowp_eq {h : Int → Int → Int → Int} {n c a : Nat} {F : Nat → Nat → Int} (h2 : h (F a c) (F a c) (F c c) = F a c) (h1 : a = c → ∀ y, y < n → h (F c y) (F c c) (F c y) = F c y) : ∀ j, j ≤ n → itr (fun b F => stp h c a b F) j F = rowT h c a j F
  | 0, _ => by funext x y; simp [itr, rowT]
  | j + 1, hj => by
    simp only [itr]
    rw [rowp_eq h2 h1 j (by omega)]
    funext x y
    unfold stp updM
    have e1 : rowT h c a j F a j = F a j := by unfold rowT; rw [if_neg (by omega)]
    have e2 : rowT h c a j F a c = F a c := by unfold rowT; split
                                               · exact h2
                                               · rfl
    have e3 : rowT h c a j F c j = F c j := by unfold rowT; rw [if_neg (by omega)]
    rw [e1, e2, e3]
    unfold rowT
    by_cases q : x = a ∧ y = j
    · obtain ⟨rfl, rfl⟩ := q
      rw [if_pos ⟨rfl, rfl⟩, if_pos (by omega)]
    · rw [if_neg q]
      by_cases q2 : x = a ∧ y < j
      · rw [if_pos q2, if_pos (by omega)]
      · rw [if_neg q2, if_neg (by omega)]
theorem phs_eq {h : Int → Int → Int → Int} {n c : Nat} {F : Nat → Nat → Int} (hc : c < n) (h1 : ∀ y, y < n → h (F c y) (F c c) (F c y) = F c y) (h2 : ∀ x, x < n → h (F x c) (F x c) (F c c) = F x c) : ∀ i, i ≤ n → itr (fun a F => rowp h n c a F) i F = phsT h n c i F
  | 0, _ => by funext x y; simp [itr, phsT]
  | i + 1, hi => by
    simp only [itr]
    rw [phs_eq hc h1 h2 i (by omega)]
    have ec : ∀ y, phsT h n c i F c y = F c y := fun y => by
      unfold phsT; split
      · rename_i q; exact h1 y q.2
      · rfl
    have er : ∀ x, phsT h n c i F x c = F x c := fun x => by
      unfold phsT; split
      · rename_i q; exact h2 x (by omega)
      · rfl
    have ei : ∀ y, phsT h n c i F i y = F i y := fun y => by unfold phsT; rw [if_neg (by omega)]
    unfold rowp
    rw [rowp_eq (by rw [er, ec]; exact h2 i (by omega)) (fun e y hy => by subst e; rw [ec, ec]; exact h1 y hy) n (Nat.le_refl _)]
    funext x y
    unfold rowT
    by_cases q : x = i ∧ y < n
    · obtain ⟨rfl, q⟩ := q
      rw [if_pos ⟨rfl, q⟩, ei, er, ec]
      unfold phsT
      rw [if_pos (by omega)]
    · rw [if_neg q]
      unfold phsT
      by_cases q2 : x < i ∧ y < n
      · rw [if_pos q2, if_pos (by omega)]
      · rw [if_neg q2, if_neg (by omega)]

/-! ### ways -/
def far : Int := 1099511627776
/-- A way from a to b in so many steps, and what it adds up to. -/
inductive Walk (n : Nat) (S : Nat → Nat → Int) (a : Nat) : Nat → Nat → Int → Prop
  | nil : a < n → Walk n S a a 0 0
  | step {x b k : Nat} {v : Int} : Walk n S a x k v → b < n → S x b < far → Walk n S a b (k + 1) (v + S x b)
theorem Walk.ends {n : Nat} {S : Nat → Nat → Int} {a b k : Nat} {v : Int} (h : Walk n S a b k v) : a < n ∧ b < n := by
  induction h with
  | nil h => exact ⟨h, h⟩
  | step _ hb _ ih => exact ⟨ih.1, hb⟩
theorem Walk.trans {n : Nat} {S : Nat → Nat → Int} {a b c j k : Nat} {u v : Int} (h : Walk n S a b j u) (h' : Walk n S b c k v) : Walk n S a c (j + k) (u + v) := by
  induction h' with
  | nil _ => rw [Int.add_zero]; exact h
  | step _ hb hs ih => rw [← Nat.add_assoc, ← Int.add_assoc]; exact .step ih hb hs
theorem Walk.le {n : Nat} {S E : Nat → Nat → Int} (hS : ∀ a b, a < n → b < n → E a b ≤ S a b) (h0 : ∀ a, a < n → E a a ≤ 0) (ht : ∀ a b c, a < n → b < n → c < n → E a c ≤ E a b + E b c) {a b k : Nat} {v : Int} (h : Walk n S a b k v) : E a b ≤ v := by
  induction h with
  | nil h => exact h0 _ h
  | step hw hb hs ih =>
    have h1 := ht _ _ _ hw.ends.1 hw.ends.2 hb
    have h2 := hS _ _ hw.ends.2 hb
    omega
theorem Walk.mono {n : Nat} {S S' : Nat → Nat → Int} (hS : ∀ a b, a < n → b < n → S a b < far → S' a b = S a b) {a b k : Nat} {v : Int} (h : Walk n S a b k v) : Walk n S' a b k v := by
  induction h with
  | nil h => exact .nil h
  | step hw hb hs ih =>
    have e := hS _ _ hw.ends.2 hb hs
    rw [← e]
    exact .step ih hb (by rw [e]; exact hs)
theorem Walk.one {n : Nat} {S : Nat → Nat → Int} {a b : Nat} (ha : a < n) (hb : b < n) (h : S a b < far) : Walk n S a b 1 (S a b) := by
  have := Walk.step (.nil ha) hb h
  rwa [Int.zero_add] at this
theorem Walk.nonneg {n : Nat} {S : Nat → Nat → Int} (hS : ∀ a b, a < n → b < n → 0 ≤ S a b) {a b k : Nat} {v : Int} (h : Walk n S a b k v) : 0 ≤ v := by
  induction h with
  | nil h => exact Int.le_refl _
  | step hw hb hs ih =>
    have := hS _ _ hw.ends.2 hb
    omega
theorem Walk.zero {n : Nat} {S : Nat → Nat → Int} {a b : Nat} {v : Int} (h : Walk n S a b 0 v) : a = b ∧ v = 0 := by
  cases h; exact ⟨rfl, rfl⟩
theorem Walk.last {n : Nat} {S : Nat → Nat → Int} {a b k : Nat} {v : Int} (h : Walk n S a b (k + 1) v) : ∃ x u, Walk n S a x k u ∧ S x b < far ∧ v = u + S x b ∧ b < n := by
  cases h with
  | step hw hb hs => exact ⟨_, _, hw, hs, rfl, hb⟩
/-! ### the closure of a table of steps of at least 0 -/
structure Cl (n : Nat) (S D : Nat → Nat → Int) : Prop where
  zero : ∀ a, a < n → D a a = 0
  nonneg : ∀ a b, a < n → b < n → 0 ≤ D a b
  far : ∀ a b, a < n → b < n → D a b ≤ far
  le : ∀ a b, a < n → b < n → D a b ≤ S a b
  tri : ∀ a b c, a < n → b < n → c < n → D a c ≤ D a b + D b c
  att : ∀ a b, a < n → b < n → D a b < Wh.far → ∃ k, Walk n S a b k (D a b)
theorem Cl.lb {n : Nat} {S D E : Nat → Nat → Int} (h : Cl n S D) (hS : ∀ a b, a < n → b < n → E a b ≤ S a b) (h0 : ∀ a, a < n → E a a ≤ 0) (ht : ∀ a b c, a < n → b < n → c < n → E a c ≤ E a b + E b c) (hf : ∀ a b, a < n → b < n → E a b ≤ Wh.far) {a b : Nat} (ha : a < n) (hb : b < n) : E a b ≤ D a b := by
  by_cases q : D a b < Wh.far
  · obtain ⟨k, hw⟩ := h.att a b ha hb q
    exact hw.le hS h0 ht
  · have := hf a b ha hb
    omega
theorem Cl.walk {n : Nat} {S D : Nat → Nat → Int} (h : Cl n S D) {a b k : Nat} {v : Int} (hw : Walk n S a b k v) : D a b ≤ v :=
  hw.le h.le (fun a ha => Int.le_of_eq (h.zero a ha)) h.tri
theorem Cl.sym {n : Nat} {S D : Nat → Nat → Int} (h : Cl n S D) (hS : ∀ a b, a < n → b < n → S a b = S b a) {a b : Nat} (ha : a < n) (hb : b < n) : D a b = D b a := by
  have q : ∀ {a b}, a < n → b < n → D b a ≤ D a b := fun {a b} ha hb => h.lb (E := fun a b => D b a) (fun a b ha hb => by rw [hS a b ha hb]; exact h.le b a hb ha) (fun a ha => Int.le_of_eq (h.zero a ha)) (fun a b c ha hb hc => by have := h.tri c b a hc hb ha; omega) (fun a b ha hb => h.far b a hb ha) ha hb
  have := q ha hb
  have := q hb ha
  omega
/-- Two closures of the same steps. -/
theorem Cl.uniq {n : Nat} {S D D' : Nat → Nat → Int} (h : Cl n S D) (h' : Cl n S D') {a b : Nat} (ha : a < n) (hb : b < n) : D a b = D' a b := by
  have h1 := h'.lb h.le (fun a ha => Int.le_of_eq (h.zero a ha)) h.tri h.far ha hb
  have h2 := h.lb h'.le (fun a ha => Int.le_of_eq (h'.zero a ha)) h'.tri h'.far ha hb
  omega
/-- Shorter steps, shorter ways. -/
theorem Cl.mono {n : Nat} {S S' D D' : Nat → Nat → Int} (h : Cl n S D) (h' : Cl n S' D') (hS : ∀ a b, a < n → b < n → S' a b ≤ S a b) {a b : Nat} (ha : a < n) (hb : b < n) : D' a b ≤ D a b :=
  h.lb (fun a b ha hb => Int.le_trans (h'.le a b ha hb) (hS a b ha hb)) (fun a ha => Int.le_of_eq (h'.zero a ha)) h'.tri h'.far ha hb

/-- What a table is, of which the ways over the places below c are closed. -/
structure Half (n c : Nat) (S F : Nat → Nat → Int) : Prop where
  zero : ∀ a, a < n → F a a = 0
  nonneg : ∀ a b, a < n → b < n → 0 ≤ F a b
  far : ∀ a b, a < n → b < n → F a b ≤ far
  le : ∀ a b, a < n → b < n → F a b ≤ S a b
  tri : ∀ a b k, a < n → b < n → k < c → F a b ≤ F a k + F k b
  att : ∀ a b, a < n → b < n → F a b < Wh.far → ∃ k, Walk n S a b k (F a b)
def hmin (x y z : Int) : Int := if wr (y + z) < x then wr (y + z) else x
theorem hmin_eq {x y z : Int} (hy : 0 ≤ y) (hy' : y ≤ far) (hz : 0 ≤ z) (hz' : z ≤ far) : hmin x y z = if y + z < x then y + z else x := by
  unfold hmin far at *
  rw [wr_id (by omega) (by omega)]
theorem Half.next {n c : Nat} {S F : Nat → Nat → Int} (hc : c < n) (h : Half n c S F) : Half n (c + 1) S (phs hmin n c F) := by
  have hm : ∀ x y z k, x < n → y < n → z < n → k < n → hmin (F x y) (F x z) (F z k) = if F x z + F z k < F x y then F x z + F z k else F x y :=
    fun x y z k hx hy hz hk => hmin_eq (h.nonneg _ _ hx hz) (h.far _ _ hx hz) (h.nonneg _ _ hz hk) (h.far _ _ hz hk)
  have e : phs hmin n c F = phsT hmin n c n F := phs_eq hc (fun y hy => by rw [hmin_eq (h.nonneg _ _ hc hc) (h.far _ _ hc hc) (h.nonneg _ _ hc hy) (h.far _ _ hc hy), h.zero c hc, if_neg (by omega)])
    (fun x hx => by rw [hmin_eq (h.nonneg _ _ hx hc) (h.far _ _ hx hc) (h.nonneg _ _ hc hc) (h.far _ _ hc hc), h.zero c hc, if_neg (by omega)]) n (Nat.le_refl _)
  have ev : ∀ a b, a < n → b < n → phs hmin n c F a b = if F a c + F c b < F a b then F a c + F c b else F a b := fun a b ha hb => by
    rw [e]; unfold phsT; rw [if_pos ⟨ha, hb⟩, hm a b c b ha hb hc hb]
  refine ⟨fun a ha => ?_, fun a b ha hb => ?_, fun a b ha hb => ?_, fun a b ha hb => ?_, fun a b k ha hb hk => ?_, fun a b ha hb => ?_⟩
  · rw [ev a a ha ha]
    have := h.zero a ha; have := h.nonneg a c ha hc; have := h.nonneg c a hc ha
    rw [if_neg (by omega)]; assumption
  · rw [ev a b ha hb]
    have := h.nonneg a b ha hb; have := h.nonneg a c ha hc; have := h.nonneg c b hc hb
    split <;> omega
  · rw [ev a b ha hb]
    have := h.far a b ha hb
    split <;> omega
  · rw [ev a b ha hb]
    have := h.le a b ha hb
    split <;> omega
  · have hk' : k < n := by omega
    rw [ev a b ha hb, ev a k ha hk', ev k b hk' hb]
    have n1 := h.nonneg a c ha hc
    have n2 := h.nonneg c b hc hb
    by_cases q : k = c
    · subst q
      have := h.zero k hk'
      split <;> split <;> split <;> omega
    · have hk2 : k < c := by omega
      have t1 := h.tri a b k ha hb hk2
      have t2 := h.tri a c k ha hc hk2
      have t3 := h.tri c b k hc hb hk2
      have n3 := h.nonneg c k hc hk'
      have n4 := h.nonneg k c hk' hc
      split <;> split <;> split <;> omega
  · rw [ev a b ha hb]
    split
    · rename_i q
      intro hlt
      have n1 := h.nonneg a c ha hc
      have n2 := h.nonneg c b hc hb
      obtain ⟨k1, w1⟩ := h.att a c ha hc (by omega)
      obtain ⟨k2, w2⟩ := h.att c b hc hb (by omega)
      exact ⟨_, w1.trans w2⟩
    · exact h.att a b ha hb
theorem Half.all {n : Nat} {S F : Nat → Nat → Int} (h : Half n 0 S F) : ∀ c, c ≤ n → Half n c S (itr (fun c F => phs hmin n c F) c F)
  | 0, _ => h
  | c + 1, hc => (h.all c (by omega)).next (by omega)
theorem Half.cl {n : Nat} {S F : Nat → Nat → Int} (h : Half n 0 S F) : Cl n S (cls hmin n F) := by
  have := h.all n (Nat.le_refl _)
  exact ⟨this.zero, this.nonneg, this.far, this.le, fun a b c ha hb hc => this.tri a c b ha hc hb, this.att⟩
/-- Steps of at least 0, both ways the same or not; each place is no step from itself. -/
theorem cl_of {n : Nat} {S F : Nat → Nat → Int} (hS : ∀ a b, a < n → b < n → 0 ≤ S a b ∧ S a b ≤ far) (hF : ∀ a b, a < n → b < n → F a b = if a = b then 0 else S a b) : Cl n S (cls hmin n F) := by
  refine Half.cl ⟨fun a ha => ?_, fun a b ha hb => ?_, fun a b ha hb => ?_, fun a b ha hb => ?_, fun a b k _ _ hk => absurd hk (by omega), fun a b ha hb => ?_⟩
  · rw [hF a a ha ha, if_pos rfl]
  · rw [hF a b ha hb]; have := (hS a b ha hb).1; split <;> omega
  · rw [hF a b ha hb]; have := (hS a b ha hb).2; unfold far at *; split <;> omega
  · rw [hF a b ha hb]; have := (hS a b ha hb).1; split <;> omega
  · rw [hF a b ha hb]
    split
    · rename_i q; subst q; intro _; exact ⟨0, .nil ha⟩
    · intro q; exact ⟨1, .one ha hb q⟩

/-! ### the fewest steps -/
theorem nodup_le : ∀ (n : Nat) (l : List Nat), l.Nodup → (∀ x ∈ l, x < n) → l.length ≤ n
  | 0, l, _, h => by
    cases l with
    | nil => simp
    | cons x _ => exact absurd (h x (by simp)) (by omega)
  | n + 1, l, hd, h => by
    by_cases q : n ∈ l
    · have h1 := nodup_le n (l.erase n) (hd.erase n) (fun x hx => by
        have h2 := h x (List.mem_of_mem_erase hx)
        have h3 : x ≠ n := fun e => by subst e; exact (List.Nodup.not_mem_erase hd) hx
        omega)
      rw [List.length_erase_of_mem q] at h1
      have := List.length_pos_of_mem q
      omega
    · have := nodup_le n l hd (fun x hx => by
        have h2 := h x hx
        have h3 : x ≠ n := fun e => by subst e; exact q hx
        omega)
      omega
/-- A least way, in the fewest steps: its places have each another number of fewest steps. -/
def Few (n : Nat) (S D : Nat → Nat → Int) (a b k : Nat) : Prop := Walk n S a b k (D a b) ∧ ∀ j, j < k → ¬ Walk n S a b j (D a b)
theorem few_of {n : Nat} {S D : Nat → Nat → Int} {a b : Nat} : ∀ k, Walk n S a b k (D a b) → ∃ k, Few n S D a b k := by
  intro k
  induction k using Nat.strongRecOn with
  | _ k ih =>
    intro h
    by_cases q : ∃ j, j < k ∧ Walk n S a b j (D a b)
    · obtain ⟨j, hj, hw⟩ := q; exact ih j hj hw
    · exact ⟨k, h, fun j hj hw => q ⟨j, hj, hw⟩⟩
theorem Few.uniq {n : Nat} {S D : Nat → Nat → Int} {a b j k : Nat} (h : Few n S D a b j) (h' : Few n S D a b k) : j = k := by
  rcases Nat.lt_trichotomy j k with q | q | q
  · exact absurd h.1 (h'.2 j q)
  · exact q
  · exact absurd h'.1 (h.2 k q)
theorem Few.last {n : Nat} {S D : Nat → Nat → Int} (hc : Cl n S D) {a b k : Nat} (h : Few n S D a b (k + 1)) : ∃ x, Few n S D a x k ∧ S x b < far ∧ D a b = D a x + S x b ∧ x < n := by
  obtain ⟨x, u, hw, hs, hv, hb⟩ := h.1.last
  have ha := hw.ends.1
  have hx := hw.ends.2
  have h1 := hc.walk hw
  have h2 := hc.tri a x b ha hx hb
  have h3 := hc.le x b hx hb
  have e : u = D a x := by omega
  subst e
  refine ⟨x, ⟨hw, fun j hj hw' => ?_⟩, hs, hv, hx⟩
  have := Walk.step hw' hb hs
  rw [← hv] at this
  exact h.2 (j + 1) (by omega) this
theorem Few.lt {n : Nat} {S D : Nat → Nat → Int} (hc : Cl n S D) {a b k : Nat} (h : Few n S D a b k) : k < n := by
  -- a place for each number of steps
  have q : ∀ k b, Few n S D a b k → ∃ l : List Nat, l.length = k + 1 ∧ l.Nodup ∧ ∀ x ∈ l, x < n ∧ ∃ j, j ≤ k ∧ Few n S D a x j := by
    intro k
    induction k with
    | zero => intro b h; exact ⟨[b], rfl, by simp, fun x hx => by simp at hx; subst hx; exact ⟨h.1.ends.2, 0, Nat.le_refl _, h⟩⟩
    | succ k ih =>
      intro b h
      obtain ⟨x, hx, _⟩ := h.last hc
      obtain ⟨l, h1, h2, h3⟩ := ih x hx
      refine ⟨b :: l, by simp [h1], ?_, fun y hy => ?_⟩
      · rw [List.nodup_cons]
        refine ⟨fun hb => ?_, h2⟩
        obtain ⟨_, j, hj, hf⟩ := h3 b hb
        have := hf.uniq h
        omega
      · rcases List.mem_cons.1 hy with rfl | hy
        · exact ⟨h.1.ends.2, k + 1, Nat.le_refl _, h⟩
        · obtain ⟨h4, j, hj, hf⟩ := h3 y hy
          exact ⟨h4, j, by omega, hf⟩
  obtain ⟨l, h1, h2, h3⟩ := q k b h
  have := nodup_le n l h2 (fun x hx => (h3 x hx).1)
  omega
theorem Walk.bound {n : Nat} {S : Nat → Nat → Int} {M : Int} (hM : ∀ a b, a < n → b < n → S a b < far → S a b ≤ M) {a b k : Nat} {v : Int} (h : Walk n S a b k v) : v ≤ (k : Int) * M := by
  induction h with
  | nil _ => simp
  | @step x b k v hw hb hs ih =>
    have := hM _ _ hw.ends.2 hb hs
    rw [Int.natCast_add, Int.add_mul]
    simp only [Int.cast_ofNat_Int, Int.one_mul]
    omega
/-- What is compared at all is known within so much. -/
theorem Cl.bound {n : Nat} {S D : Nat → Nat → Int} (hc : Cl n S D) {M : Int} (h0 : 0 ≤ M) (hM : ∀ a b, a < n → b < n → S a b < Wh.far → S a b ≤ M) {a b : Nat} (ha : a < n) (hb : b < n) (h : D a b < Wh.far) : D a b ≤ ((n - 1 : Nat) : Int) * M := by
  obtain ⟨k, hw⟩ := hc.att a b ha hb h
  obtain ⟨k, hk⟩ := few_of k hw
  have h1 := hk.lt hc
  have h2 := hk.1.bound hM
  have h3 : (k : Int) * M ≤ ((n - 1 : Nat) : Int) * M := Int.mul_le_mul_of_nonneg_right (by omega) h0
  omega
end Go.Proofs.YtjlagmcdoobimaaGreat.Wh

namespace Go.Proofs.YtjlagmcdoobimaaGreat.Wh
open Go

theorem stepsFrom_st {σ : Type} {f : Int → σ → Option σ} (g : Nat → σ) : ∀ (k i : Nat), (∀ j, i ≤ j → j < i + k → f (j : Int) (g j) = some (g (j + 1))) → stepsFrom f k (i : Int) (g i) = some (g (i + k))
  | 0, i, _ => rfl
  | k + 1, i, h => by
    unfold stepsFrom
    rw [h i (Nat.le_refl _) (by omega)]
    have := stepsFrom_st g k (i + 1) fun j h1 h2 => h j (by omega) (by omega)
    rw [show i + (k + 1) = i + 1 + k from by omega]
    exact this
theorem forS_st {σ : Type} {f : Int → σ → Option σ} {N : Nat} {s : σ} (g : Nat → σ) (h0 : g 0 = s) (hN : N ≤ 4294967296) (h : ∀ j, j < N → f (j : Int) (g j) = some (g (j + 1))) : forS 0 (N : Int) s f = some (g N) := by
  subst h0
  unfold forS
  rw [if_pos (by omega), show ((N : Int) - 0).toNat = N from by omega]
  have := stepsFrom_st g N 0 fun j _ h2 => h j (by omega)
  rwa [Nat.zero_add] at this
/-- What the rounds from i on lead to. -/
def outOf {σ ρ : Type} (g : Nat → σ) (L : Nat → Option ρ) : Nat → Nat → Out σ ρ
  | 0, i => .again (g i)
  | k + 1, i => match L i with | none => outOf g L k (i + 1) | some r => .leave r
theorem forFrom_st {σ ρ : Type} {f : Int → σ → Option (Out σ ρ)} (g : Nat → σ) (L : Nat → Option ρ) : ∀ (k i : Nat), (∀ j, i ≤ j → j < i + k → (∀ q, i ≤ q → q < j → L q = none) → f (j : Int) (g j) = some (match L j with | none => .again (g (j + 1)) | some r => .leave r)) → forFrom f k (i : Int) (g i) = some (outOf g L k i)
  | 0, i, _ => rfl
  | k + 1, i, h => by
    unfold forFrom outOf
    rw [h i (Nat.le_refl _) (by omega) (fun q h1 h2 => absurd h1 (by omega))]
    cases hL : L i with
    | some r => rfl
    | none =>
      exact forFrom_st g L k (i + 1) (fun j h1 h2 h3 => h j (by omega) (by omega) (fun q q1 q2 => by
        by_cases e : q = i
        · subst e; exact hL
        · exact h3 q (by omega) q2))
theorem outOf_eq {σ ρ : Type} (g : Nat → σ) (L : Nat → Option ρ) : ∀ (k i : Nat), outOf g L k i = match (List.range' i k).findSome? L with | none => .again (g (i + k)) | some r => .leave r
  | 0, i => rfl
  | k + 1, i => by
    unfold outOf
    rw [List.range'_succ, List.findSome?_cons]
    cases hL : L i with
    | some r => rfl
    | none =>
      simp only
      rw [outOf_eq g L k (i + 1), show i + 1 + k = i + (k + 1) from by omega]
/-- Rounds with a way out: L tells, by the number of the round, whether and with what it leaves. -/
theorem forM_st {σ ρ : Type} {f : Int → σ → Option (Out σ ρ)} {N : Nat} {s : σ} (g : Nat → σ) (L : Nat → Option ρ) (h0 : g 0 = s) (hN : N ≤ 4294967296) (h : ∀ j, j < N → (∀ q, q < j → L q = none) → f (j : Int) (g j) = some (match L j with | none => .again (g (j + 1)) | some r => .leave r)) :
    forM 0 (N : Int) s f = some (match (List.range N).findSome? L with | none => .again (g N) | some r => .leave r) := by
  subst h0
  unfold forM
  rw [if_pos (by omega), show ((N : Int) - 0).toNat = N from by omega]
  have := forFrom_st g L N 0 fun j _ h2 h3 => h j (by omega) fun q hq => h3 q (by omega) hq
  rw [outOf_eq, Nat.zero_add] at this
  rw [List.range_eq_range']
  exact this
/-- The same of loops with fuel. -/
theorem loopM_st {σ ρ : Type} {f : σ → Option (Out σ ρ)} {N fuel : Nat} {s : σ} (g : Nat → σ) (L : Nat → Option ρ) (d : ρ) (h0 : g 0 = s) (hf : N < fuel) (h : ∀ j, j < N → (∀ q, q < j → L q = none) → f (g j) = some (match L j with | none => .again (g (j + 1)) | some r => .leave r)) (he : (∀ q, q < N → L q = none) → f (g N) = some (.leave d)) :
    loopM f fuel s = some (((List.range N).findSome? L).getD d) := by
  subst h0
  have q : ∀ (k i fuel : Nat), i + k = N → k < fuel → (∀ q, q < i → L q = none) → loopM f fuel (g i) = some (((List.range' i k).findSome? L).getD d) := by
    intro k
    induction k with
    | zero =>
      intro i fuel hi hf hq
      obtain ⟨fuel, rfl⟩ : ∃ m, fuel = m + 1 := ⟨fuel - 1, by omega⟩
      unfold loopM
      have : i = N := by omega
      subst this
      rw [he hq]; rfl
    | succ k ih =>
      intro i fuel hi hf hq
      obtain ⟨fuel, rfl⟩ : ∃ m, fuel = m + 1 := ⟨fuel - 1, by omega⟩
      unfold loopM
      rw [h i (by omega) hq, List.range'_succ, List.findSome?_cons]
      cases hL : L i with
      | some r => rfl
      | none =>
        simp only
        exact ih (i + 1) fuel (by omega) (by omega) fun q q1 => by
          by_cases e : q = i
          · subst e; exact hL
          · exact hq q (by omega)
  rw [List.range_eq_range']
  exact q N 0 fuel (by omega) hf (fun q hq => absurd hq (by omega))
/-- Tests of all rounds. -/
theorem findAll {ρ : Type} {N : Nat} (q : Nat → Bool) (r : ρ) : (List.range N).findSome? (fun j => if q j = true then none else some r) = if (List.range N).all q = true then none else some r := by
  induction N with
  | zero => rfl
  | succ N ih =>
    rw [List.range_succ, List.findSome?_append, ih, List.all_append]
    cases h1 : (List.range N).all q with
    | false => simp
    | true => cases h2 : q N <;> simp [h2]
theorem forM_test {ρ : Type} {f : Int → Unit → Option (Out Unit ρ)} {N : Nat} (q : Nat → Bool) (r : ρ) (hN : N ≤ 4294967296) (h : ∀ j, j < N → (∀ i, i < j → q i = true) → f (j : Int) () = some (if q j = true then .again () else .leave r)) :
    forM 0 (N : Int) () f = some (if (List.range N).all q = true then .again () else .leave r) := by
  rw [forM_st (f := f) (fun _ => ()) (fun j => if q j = true then none else some r) rfl hN (fun j hj hq => ?_), findAll]
  · cases (List.range N).all q <;> rfl
  · rw [h j hj fun i hi => ?_]
    · cases q j <;> rfl
    · have := hq i hi
      simp at this
      exact this
theorem loopM_test {σ ρ : Type} {f : σ → Option (Out σ ρ)} {N fuel : Nat} {s : σ} (g : Nat → σ) (q : Nat → Bool) (r d : ρ) (h0 : g 0 = s) (hf : N < fuel) (h : ∀ j, j < N → (∀ i, i < j → q i = true) → f (g j) = some (if q j = true then .again (g (j + 1)) else .leave r)) (he : f (g N) = some (.leave d)) :
    loopM f fuel s = some (if (List.range N).all q = true then d else r) := by
  rw [loopM_st (f := f) g (fun j => if q j = true then none else some r) d h0 hf (fun j hj hq => ?_) (fun _ => he), findAll]
  · split <;> rfl
  · rw [h j hj fun i hi => ?_]
    · cases q j <;> rfl
    · have := hq i hi
      simp at this
      exact this
/-- Tests of all elements of a list. -/
theorem all_range {α : Type} (xs : List α) (p : α → Bool) (q : Nat → Bool) (h : ∀ j x, xs[j]? = some x → q j = p x) : (List.range xs.length).all q = xs.all p := by
  apply Bool.eq_iff_iff.2
  simp only [List.all_eq_true, List.mem_range]
  constructor
  · intro h1 x hx
    obtain ⟨j, hj⟩ := List.mem_iff_getElem?.1 hx
    rw [← h j x hj]
    exact h1 j (List.getElem?_eq_some_iff.1 hj).1
  · intro h1 j hj
    rw [h j _ (List.getElem?_eq_getElem hj)]
    exact h1 _ (by simp)
/-! ### bits -/
theorem bor_nat {s t : Nat} (hs : s < 9223372036854775808) (ht : t < 9223372036854775808) : bor (s : Int) (t : Int) = ((s ||| t : Nat) : Int) := by
  unfold bor
  have h : (BitVec.ofInt 64 (s : Int) ||| BitVec.ofInt 64 (t : Int)).toNat = s ||| t := by
    rw [BitVec.toNat_or]
    simp only [BitVec.ofInt_natCast, BitVec.toNat_ofNat]
    rw [Nat.mod_eq_of_lt (by omega), Nat.mod_eq_of_lt (by omega)]
  rw [h]
  have h2 : s ||| t < 2 ^ 63 := Nat.or_lt_two_pow (by omega) (by omega)
  exact wr_id (by omega) (by omega)
/-- The set of a list, as bits. -/
def bset (l : List Nat) : Nat := l.foldl (fun s k => s ||| 2 ^ k) 0
theorem bset_fold (i : Nat) : ∀ (l : List Nat) (s : Nat), (l.foldl (fun s k => s ||| 2 ^ k) s).testBit i = (s.testBit i || decide (i ∈ l))
  | [], s => by simp
  | k :: l, s => by
    rw [List.foldl_cons, bset_fold i l, Nat.testBit_or, Nat.testBit_two_pow, Bool.or_assoc]
    congr 1
    by_cases e : k = i
    · subst e; simp
    · have e' : ¬ i = k := fun q => e q.symm
      simp [e, e']
theorem bset_bit (l : List Nat) (i : Nat) : (bset l).testBit i = decide (i ∈ l) := by
  unfold bset
  rw [bset_fold]; simp
theorem bset_lt {l : List Nat} {k : Nat} (h : ∀ i ∈ l, i < k) : bset l < 2 ^ k := by
  refine Nat.lt_pow_two_of_testBit _ fun i hi => ?_
  rw [bset_bit, decide_eq_false_iff_not]
  intro q
  have := h i q
  omega
theorem bset_take {l : List Nat} {j i : Nat} (h : l[j]? = some i) : bset (l.take (j + 1)) = bset (l.take j) ||| 2 ^ i := by
  unfold bset
  rw [List.take_add_one, h, List.foldl_append]
  rfl
def Incr (l : List Nat) : Prop := l.Pairwise (· < ·)
theorem Incr.nodup {l : List Nat} (h : Incr l) : l.Nodup := h.imp (fun h => by omega)
theorem incr_ext {l l' : List Nat} (h : Incr l) (h' : Incr l') (hm : ∀ i, i ∈ l ↔ i ∈ l') : l = l' := by
  have hp : l.Perm l' := (List.perm_ext_iff_of_nodup h.nodup h'.nodup).2 hm
  refine hp.eq_of_pairwise (le := (· < ·)) (fun a b _ _ h1 h2 => by omega) h h'
/-! ### an order of lists -/
def lexB : List Nat → List Nat → Bool
  | [], [] => false
  | [], _ :: _ => true
  | _ :: _, [] => false
  | x :: r, y :: s => if x < y then true else if y < x then false else lexB r s
/-- By a number, by how many, and as lists. -/
def befL (x : Int) (a : List Nat) (y : Int) (b : List Nat) : Bool := decide (x < y) || (decide (x = y) && (decide (a.length < b.length) || (decide (a.length = b.length) && lexB a b)))
/-! ### the least of those that do -/
def lst (bf : Nat → Nat → Bool) (q : Nat → Bool) : Nat → Option Nat
  | 0 => none
  | j + 1 => match lst bf q j with
    | none => if q j = true then some j else none
    | some t => if (bf j t && q j) = true then some j else some t
theorem lst_congr {bf bf' : Nat → Nat → Bool} {q q' : Nat → Bool} : ∀ {N : Nat}, (∀ s, s < N → q s = q' s) → (∀ s t, s < N → t < N → bf s t = bf' s t) → lst bf q N = lst bf' q' N ∧ ∀ t, lst bf q N = some t → t < N
  | 0, _, _ => ⟨rfl, fun t h => by cases h⟩
  | N + 1, h1, h2 => by
    obtain ⟨e, h3⟩ := lst_congr (N := N) (fun s hs => h1 s (by omega)) (fun s t hs ht => h2 s t (by omega) (by omega))
    unfold lst
    rw [← e, ← h1 N (by omega)]
    cases h : lst bf q N with
    | none => refine ⟨rfl, fun t ht => ?_⟩; simp only at ht; split at ht <;> cases ht; omega
    | some u =>
      have := h3 u h
      simp only
      rw [← h2 N u (by omega) (by omega)]
      refine ⟨rfl, fun t ht => ?_⟩
      split at ht <;> cases ht <;> omega
/-! ### the first that is so -/
theorem find_idx {α : Type} (p : α → Bool) : ∀ xs : List α, (List.range xs.length).findSome? (fun (j : Nat) => if (xs[j]?.map p).getD false = true then some (j : Int) else none) = (xs.findIdx? p).map fun (k : Nat) => (k : Int)
  | [] => rfl
  | x :: xs => by
    rw [List.length_cons, List.range_succ_eq_map, List.findSome?_cons, List.findIdx?_cons]
    cases h : p x with
    | true => simp [h]
    | false =>
      simp only [List.getElem?_cons_zero, Option.map_some, Option.getD_some, h, Bool.false_eq_true, if_false]
      rw [List.findSome?_map]
      have ih := find_idx p xs
      have e : ((fun (j : Nat) => if ((x :: xs)[j]?.map p).getD false = true then some (j : Int) else none) ∘ Nat.succ) = fun (j : Nat) => (if (xs[j]?.map p).getD false = true then some (j : Int) else none).map (· + 1) := by
        funext j
        simp only [Function.comp, Nat.succ_eq_add_one, List.getElem?_cons_succ]
        split <;> simp
      rw [e]
      have e2 : ∀ l : List Nat, l.findSome? (fun (j : Nat) => (if (xs[j]?.map p).getD false = true then some (j : Int) else none).map (· + 1)) = (l.findSome? (fun (j : Nat) => if (xs[j]?.map p).getD false = true then some (j : Int) else none)).map (· + 1) := by
        intro l
        induction l with
        | nil => rfl
        | cons i l ih2 =>
          rw [List.findSome?_cons, List.findSome?_cons]
          by_cases q : (xs[i]?.map p).getD false = true
          · simp only [q, if_true, Option.map_some]
          · simp only [q]; exact ih2
      rw [e2, ih]
      cases xs.findIdx? p <;> simp
theorem forM_idx {α : Type} {f : Int → Unit → Option (Out Unit Int)} (xs : List α) (p : α → Bool) (hl : xs.length ≤ 4294967296) (h : ∀ (j : Nat) (x : α), xs[j]? = some x → f (j : Int) () = some (if p x = true then .leave (j : Int) else .again ())) :
    forM 0 (xs.length : Int) () f = some (match xs.findIdx? p with | none => .again () | some k => .leave (k : Int)) := by
  rw [forM_st (f := f) (fun _ => ()) (fun (j : Nat) => if (xs[j]?.map p).getD false = true then some (j : Int) else none) rfl hl (fun j hj _ => ?_), find_idx]
  · cases xs.findIdx? p <;> rfl
  · have hx := List.getElem?_eq_getElem hj
    rw [h j _ hx, hx]
    cases q : p xs[j] <;> simp [q]
/-- The number of the first that is so; -1: none is. -/
def idxF {α : Type} (p : α → Bool) (xs : List α) : Int := match xs.findIdx? p with | none => -1 | some k => (k : Int)
theorem idxF_any {α : Type} (p : α → Bool) (xs : List α) : decide (0 ≤ idxF p xs) = xs.any p := by
  unfold idxF
  cases h : xs.findIdx? p with
  | none =>
    have := List.findIdx?_eq_none_iff.1 h
    symm
    simp only [show ¬ (0 : Int) ≤ -1 by omega, decide_false]
    rw [List.any_eq_false]
    intro x hx
    rw [this x hx]; simp
  | some k =>
    have h1 := List.findIdx?_eq_some_iff_getElem.1 h
    obtain ⟨hk, hp, _⟩ := h1
    simp only [show (0 : Int) ≤ (k : Int) by omega, decide_true]
    symm
    rw [List.any_eq_true]
    exact ⟨xs[k], by simp, hp⟩
end Go.Proofs.YtjlagmcdoobimaaGreat.Wh
