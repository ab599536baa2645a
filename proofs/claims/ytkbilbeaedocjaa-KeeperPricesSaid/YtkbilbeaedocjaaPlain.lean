/-
  What is proved: plain laws on the words that models are made of: loops, tables of numbers, bits.
-/
import Derived.Test.YtkbilbeaedocjaaPrim
import Derived.IntWalk
namespace Go.Proofs.Ytkbilbeaedocjaa.Wh
open Go

/-! ### loops -/
theorem bnd {α β : Type} {x : Option α} {y : α} {f : α → Option β} {z : Option β} (h : x = some y) (k : f y = z) : (x >>= f) = z := by rw [h]; exact k
def itr {σ : Type} (g : Nat → σ → σ) : Nat → σ → σ
  | 0, s => s
  | k + 1, s => g k (itr g k s)
theorem stepsFrom_map {σ τ : Type} {f : Int → σ → Option σ} {g : Nat → τ → τ} {emb : τ → σ} {t0 : τ} : ∀ (k i : Nat), (∀ j t, i ≤ j → j < i + k → f (j : Int) (emb t) = some (emb (g j t))) → stepsFrom f k (i : Int) (emb (itr g i t0)) = some (emb (itr g (i + k) t0))
  | 0, i, _ => rfl
  | k + 1, i, h => by
    unfold stepsFrom
    rw [h i _ (Nat.le_refl _) (by omega)]
    have := stepsFrom_map (t0 := t0) (g := g) (emb := emb) (f := f) k (i + 1) fun j t h1 h2 => h j t (by omega) (by omega)
    rw [show i + (k + 1) = i + 1 + k from by omega, ← this]
    simp only [itr]
    congr 1
theorem forS_map {σ τ : Type} {f : Int → σ → Option σ} (g : Nat → τ → τ) (emb : τ → σ) {N : Nat} {t0 : τ} (hN : N ≤ 4294967296) (h : ∀ j t, j < N → f (j : Int) (emb t) = some (emb (g j t))) : forS 0 (N : Int) (emb t0) f = some (emb (itr g N t0)) := by
  unfold forS
  rw [if_pos (by omega)]
  have := stepsFrom_map (t0 := t0) (g := g) (emb := emb) (f := f) N 0 fun j t _ h2 => h j t (by omega)
  rw [Nat.zero_add] at this
  rw [show ((N : Int) - 0).toNat = N from by omega]
  exact this
theorem stepsFrom_inv {σ : Type} {f : Int → σ → Option σ} (I : Nat → σ → Prop) : ∀ (k i : Nat) (s : σ), I i s → (∀ j s, i ≤ j → j < i + k → I j s → ∃ s', f (j : Int) s = some s' ∧ I (j + 1) s') → ∃ s', stepsFrom f k (i : Int) s = some s' ∧ I (i + k) s'
  | 0, i, s, h0, _ => ⟨s, rfl, h0⟩
  | k + 1, i, s, h0, h => by
    obtain ⟨s', h1, h2⟩ := h i s (Nat.le_refl _) (by omega) h0
    unfold stepsFrom
    rw [h1]
    obtain ⟨s'', h3, h4⟩ := stepsFrom_inv I k (i + 1) s' h2 fun j t q1 q2 => h j t (by omega) (by omega)
    exact ⟨s'', h3, by rw [show i + (k + 1) = i + 1 + k from by omega]; exact h4⟩
theorem forS_inv {σ : Type} {f : Int → σ → Option σ} (I : Nat → σ → Prop) {N : Nat} {s : σ} (hN : N ≤ 4294967296) (h0 : I 0 s) (h : ∀ j s, j < N → I j s → ∃ s', f (j : Int) s = some s' ∧ I (j + 1) s') : ∃ s', forS 0 (N : Int) s f = some s' ∧ I N s' := by
  unfold forS
  rw [if_pos (by omega)]
  have := stepsFrom_inv I N 0 s h0 fun j t _ h2 => h j t (by omega)
  simpa using this
def OutP {σ ρ : Type} (I : σ → Prop) (L : ρ → Prop) : Out σ ρ → Prop
  | .again s => I s
  | .leave r => L r
theorem forFrom_inv {σ ρ : Type} {f : Int → σ → Option (Out σ ρ)} (I : Nat → σ → Prop) (L : ρ → Prop) : ∀ (k i : Nat) (s : σ), I i s → (∀ j s, i ≤ j → j < i + k → I j s → ∃ o, f (j : Int) s = some o ∧ OutP (I (j + 1)) L o) → ∃ o, forFrom f k (i : Int) s = some o ∧ OutP (I (i + k)) L o
  | 0, i, s, h0, _ => ⟨.again s, rfl, h0⟩
  | k + 1, i, s, h0, h => by
    obtain ⟨o, h1, h2⟩ := h i s (Nat.le_refl _) (by omega) h0
    unfold forFrom
    rw [h1]
    cases o with
    | leave r => exact ⟨.leave r, rfl, h2⟩
    | again s' =>
      obtain ⟨o, h3, h4⟩ := forFrom_inv I L k (i + 1) s' h2 fun j t q1 q2 => h j t (by omega) (by omega)
      exact ⟨o, h3, by rw [show i + (k + 1) = i + 1 + k from by omega]; exact h4⟩
theorem forM_inv {σ ρ : Type} {f : Int → σ → Option (Out σ ρ)} (I : Nat → σ → Prop) (L : ρ → Prop) {N : Nat} {s : σ} (hN : N ≤ 4294967296) (h0 : I 0 s) (h : ∀ j s, j < N → I j s → ∃ o, f (j : Int) s = some o ∧ OutP (I (j + 1)) L o) : ∃ o, forM 0 (N : Int) s f = some o ∧ OutP (I N) L o := by
  unfold forM
  rw [if_pos (by omega)]
  have := forFrom_inv I L N 0 s h0 fun j t _ h2 => h j t (by omega)
  simpa using this
theorem loopM_inv {σ ρ : Type} {f : σ → Option (Out σ ρ)} (I : Nat → σ → Prop) (L : ρ → Prop) : ∀ (fuel m : Nat) (s : σ), m < fuel → I m s → (∀ m s, I m s → ∃ o, f s = some o ∧ OutP (fun s' => ∃ m', m' < m ∧ I m' s') L o) → ∃ r, loopM f fuel s = some r ∧ L r
  | 0, m, s, hm, _, _ => by omega
  | fuel + 1, m, s, hm, h0, h => by
    obtain ⟨o, h1, h2⟩ := h m s h0
    unfold loopM
    rw [h1]
    cases o with
    | leave r => exact ⟨r, rfl, h2⟩
    | again s' =>
      obtain ⟨m', hm', h3⟩ := h2
      exact loopM_inv I L fuel m' s' (by omega) h3 h
/-- Rounds j = 0 .. N - 1, then out. -/
theorem loopM_map {σ τ ρ : Type} {f : σ → Option (Out σ ρ)} (g : Nat → τ → τ) (emb : Nat → τ → σ) (out : τ → ρ) {N fuel : Nat} {t0 : τ} (hf : N < fuel) (h : ∀ j t, j < N → f (emb j t) = some (.again (emb (j + 1) (g j t)))) (he : ∀ t, f (emb N t) = some (.leave (out t))) :
    loopM f fuel (emb 0 t0) = some (out (itr g N t0)) := by
  obtain ⟨r, h1, h2⟩ := loopM_inv (f := f) (fun m s => m ≤ N ∧ s = emb (N - m) (itr g (N - m) t0)) (fun r => r = out (itr g N t0)) fuel N (emb 0 t0) hf ⟨Nat.le_refl _, by simp [itr]⟩ fun m s ⟨hm, hs⟩ => by
    subst hs
    cases m with
    | zero => exact ⟨_, he _, by simp [OutP]⟩
    | succ m =>
      refine ⟨_, h (N - (m + 1)) _ (by omega), m, by omega, by omega, ?_⟩
      rw [show N - (m + 1) + 1 = N - m from by omega]
      congr 1
      rw [show N - m = (N - (m + 1)) + 1 from by omega]
      rfl
  rw [h1, h2]
/-! ### numbers as they are -/
theorem wr_id {n : Int} (h1 : -9223372036854775808 ≤ n) (h2 : n ≤ 9223372036854775807) : wr n = n := by
  unfold wr
  exact IntWalk.i64_in n ⟨h1, h2⟩
theorem idx_nat {α : Type} (xs : List α) (k : Nat) : idx xs (k : Int) = xs[k]? := by
  unfold idx
  rw [if_neg (by omega)]
  rfl
/-! ### tables -/
def mat (n : Nat) (F : Nat → Nat → Int) : List (List Int) := (List.range n).map fun a => (List.range n).map fun b => F a b
def updM (F : Nat → Nat → Int) (i j : Nat) (z : Int) : Nat → Nat → Int := fun a b => if a = i ∧ b = j then z else F a b
theorem idx_mat {n : Nat} {F : Nat → Nat → Int} {i : Nat} (hi : i < n) : idx (mat n F) (i : Int) = some ((List.range n).map fun b => F i b) := by
  rw [idx_nat]
  simp [mat, hi]
theorem idx_row {n : Nat} {g : Nat → Int} {j : Nat} (hj : j < n) : idx ((List.range n).map g) (j : Int) = some (g j) := by
  rw [idx_nat]
  simp [hj]
theorem set1_row {n : Nat} {g : Nat → Int} {j : Nat} {z : Int} (hj : j < n) : set1 ((List.range n).map g) (j : Int) z = some ((List.range n).map fun b => if b = j then z else g b) := by
  unfold set1
  rw [if_neg (by omega), if_pos (by simpa using hj)]
  congr 1
  apply List.ext_getElem?
  intro q
  simp only [Int.toNat_natCast, List.getElem?_set, List.length_map, List.length_range, List.getElem?_map]
  by_cases hq : j = q
  · subst hq; simp [hj]
  · rw [if_neg hq]
    by_cases hqn : q < n
    · simp [hqn, show ¬ q = j from fun e => hq e.symm]
    · simp [hqn]
theorem set2_mat {n : Nat} {F : Nat → Nat → Int} {i j : Nat} {z : Int} (hi : i < n) (hj : j < n) : set2 (mat n F) (i : Int) (j : Int) z = some (mat n (updM F i j z)) := by
  unfold set2
  rw [idx_mat hi]
  simp only [Option.bind_eq_bind, Option.bind_some]
  rw [set1_row hj]
  simp only [Option.bind_some]
  unfold set1
  rw [if_neg (by omega), if_pos (by simpa [mat] using hi)]
  congr 1
  apply List.ext_getElem?
  intro q
  simp only [Int.toNat_natCast, mat, List.getElem?_set, List.length_map, List.length_range, List.getElem?_map, updM]
  by_cases hq : i = q
  · subst hq; simp [hi]
  · rw [if_neg hq]
    by_cases hqn : q < n
    · simp [hqn, show ¬ q = i from fun e => hq e.symm]
    · simp [hqn]
theorem mat_congr {n : Nat} {F G : Nat → Nat → Int} (h : ∀ a b, a < n → b < n → F a b = G a b) : mat n F = mat n G := by
  unfold mat
  apply List.map_congr_left
  intro a ha
  apply List.map_congr_left
  intro b hb
  exact h a b (by simpa using ha) (by simpa using hb)
/-! ### bits -/
theorem band_one (v : Nat) : band (v : Int) 1 = ((v % 2 : Nat) : Int) := by
  unfold band
  have h : (BitVec.ofInt 64 (v : Int) &&& BitVec.ofInt 64 1).toNat = v % 2 := by
    rw [BitVec.toNat_and]
    have h1 : (BitVec.ofInt 64 (v : Int)).toNat = v % 2 ^ 64 := by simp
    have h2 : (BitVec.ofInt 64 1).toNat = 1 := by decide
    rw [h1, h2, Nat.and_one_is_mod]
    omega
  rw [h]
  exact wr_id (by omega) (by omega)
theorem shr_nat {v i : Nat} (hi : i ≤ 64) : shr (v : Int) (i : Int) = some ((v / 2 ^ i : Nat) : Int) := by
  unfold shr
  rw [if_neg (by omega)]
  congr 1
  simp only [Int.toNat_natCast]
  rw [Nat.min_eq_left hi, Int.fdiv_eq_ediv_of_nonneg _ (Int.le_of_lt (Int.pow_pos (by decide)))]
  norm_cast
theorem bit_of {v i : Nat} : (band ((v / 2 ^ i : Nat) : Int) 1 == 1) = v.testBit i := by
  rw [band_one, Nat.testBit_eq_decide_div_mod_eq]
  generalize v / 2 ^ i % 2 = q
  apply Bool.eq_iff_iff.2
  simp
  omega
theorem shl_one {i : Nat} (hi : i ≤ 62) : shl 1 (i : Int) = some ((2 ^ i : Nat) : Int) := by
  unfold shl
  rw [if_neg (by omega)]
  congr 1
  simp only [Int.toNat_natCast]
  rw [Nat.min_eq_left (by omega), Int.one_mul]
  have h : (2 : Nat) ^ i ≤ 2 ^ 62 := Nat.pow_le_pow_right (by decide) hi
  have e : ((2 : Int) ^ i) = ((2 ^ i : Nat) : Int) := by norm_cast
  rw [e]
  generalize (2 : Nat) ^ i = q at *
  exact wr_id (by omega) (by omega)
end Go.Proofs.Ytkbilbeaedocjaa.Wh
