/-
  What is proved: words between blanks, numerals in decimals, and how they are read again.
-/
import Derived.Lib.Split
import Derived.Lib.SplitLaws
import Derived.Lib.IndexBytes
import Derived.Lib.ItoaMem
import Derived.Lib.AtoiAll
import Derived.Lib.Join
namespace Go.Proofs.YtnnhmgcigoiceaaGreatDoor
open Go

/-! ### words -/
/-- What stands between blanks. -/
def wsp : List UInt8 → List (List UInt8)
  | [] => [[]]
  | c :: r => if c = 32 then [] :: wsp r else match wsp r with
    | [] => [[c]]
    | w :: ws => (c :: w) :: ws
theorem wsp_blank (r : List UInt8) : wsp (32 :: r) = [] :: wsp r := by rw [wsp, if_pos rfl]
theorem wsp_ne (l : List UInt8) : wsp l ≠ [] := by
  cases l with
  | nil => simp [wsp]
  | cons c r =>
    rw [wsp]
    split
    · simp
    · split <;> simp
theorem wsp_cons {c : UInt8} {r w : List UInt8} {ws : List (List UInt8)} (hc : c ≠ 32) (h : wsp r = w :: ws) : wsp (c :: r) = (c :: w) :: ws := by
  rw [wsp, if_neg hc, h]
theorem wsp_out (l : List UInt8) : ∃ w ws, wsp l = w :: ws := by
  cases h : wsp l with
  | nil => exact absurd h (wsp_ne l)
  | cons w ws => exact ⟨w, ws, rfl⟩
theorem wsp_word {w : List UInt8} (hw : ∀ c ∈ w, c ≠ 32) : wsp w = [w] := by
  induction w with
  | nil => rfl
  | cons c r ih => exact wsp_cons (hw c (by simp)) (ih fun d hd => hw d (by simp [hd]))
theorem wsp_app {w r : List UInt8} (hw : ∀ c ∈ w, c ≠ 32) : wsp (w ++ 32 :: r) = w :: wsp r := by
  induction w with
  | nil => exact wsp_blank r
  | cons c v ih => exact wsp_cons (hw c (by simp)) (ih fun d hd => hw d (by simp [hd]))
theorem index_cases (c : UInt8) : ∀ l : List UInt8, (Lib.indexByte l c = -1 ∧ l.count c = 0) ∨ (0 ≤ Lib.indexByte l c ∧ 0 < l.count c)
  | [] => .inl ⟨rfl, rfl⟩
  | b :: r => by
    by_cases h : b = c
    · subst h
      exact .inr ⟨by simp [Lib.indexByte], by simp⟩
    · have hb : (b == c) = false := by simpa using h
      rcases index_cases c r with ⟨h1, h2⟩ | ⟨h1, h2⟩
      · exact .inl ⟨by simp [Lib.indexByte, h, h1], by rw [List.count_cons, hb, h2]; rfl⟩
      · refine .inr ⟨?_, by rw [List.count_cons, hb]; simpa using h2⟩
        have : ¬ Lib.indexByte r c = -1 := by omega
        simp [Lib.indexByte, h, this]; omega
theorem split_wsp (l : List UInt8) : Lib.splitK [32] 0 (Lib.count l [32]) l = wsp l := by
  induction l with
  | nil => rfl
  | cons c r ih =>
    rw [Lib.count_one] at ih ⊢
    by_cases hc : c = 32
    · subst hc
      rw [List.count_cons_self, wsp_blank, ← ih, Lib.splitK, Lib.index_one]
      have : Lib.indexByte (32 :: r) 32 = 0 := by simp [Lib.indexByte]
      rw [this]
      rfl
    · have hcb : (c == 32) = false := by simpa using hc
      have hcount : (c :: r).count 32 = r.count 32 := by rw [List.count_cons, hcb]; simp
      rw [hcount]
      rcases index_cases 32 r with ⟨h1, h2⟩ | ⟨h1, h2⟩
      · rw [h2] at ih ⊢
        rw [wsp_cons hc (show wsp r = r :: [] from ih.symm)]; rfl
      · obtain ⟨k, hk⟩ : ∃ k, r.count 32 = k + 1 := ⟨r.count 32 - 1, by omega⟩
        rw [hk] at ih ⊢
        rw [Lib.splitK, Lib.index_one] at ih ⊢
        have e1 : (Lib.indexByte r 32 == -1) = false := by rw [beq_eq_false_iff_ne]; omega
        have e2 : Lib.indexByte (c :: r) 32 = Lib.indexByte r 32 + 1 := by
          have : ¬ Lib.indexByte r 32 = -1 := by omega
          simp [Lib.indexByte, hc, this]
        have e3 : (Lib.indexByte (c :: r) 32 == -1) = false := by rw [e2, beq_eq_false_iff_ne]; omega
        rw [e1] at ih
        rw [e3, e2]
        simp only [Bool.false_eq_true, if_false] at ih ⊢
        rw [wsp_cons hc ih.symm]
        have e4 : (Lib.indexByte r 32 + 1).toNat = (Lib.indexByte r 32).toNat + 1 := by omega
        rw [e4]
        rfl
/-! ### numerals -/
theorem digit_ok {u : Nat} (h : u < 10) : (UInt8.ofNat (48 + u)).toNat = 48 + u := by
  rw [UInt8.toNat_ofNat']; omega
theorem digits_all (u : Nat) : ∀ c ∈ Lib.decDigits u, 48 ≤ c.toNat ∧ c.toNat ≤ 57 := by
  induction u using Nat.strongRecOn with
  | _ u ih =>
    intro c hc
    rw [Lib.decDigits] at hc
    split at hc
    · rename_i h
      rw [List.mem_singleton] at hc
      subst hc
      rw [digit_ok h]; omega
    · rcases List.mem_append.1 hc with hc | hc
      · exact ih (u / 10) (by omega) c hc
      · rw [List.mem_singleton] at hc
        subst hc
        rw [digit_ok (u := u % 10) (by omega)]; omega
theorem digits_ne (u : Nat) : Lib.decDigits u ≠ [] := by
  rw [Lib.decDigits]; split <;> simp
theorem digits_blank (u : Nat) : ∀ c ∈ Lib.decDigits u, c ≠ 32 := fun c hc e => by
  have := digits_all u c hc
  rw [e] at this
  exact absurd this.1 (by decide)
theorem parse_app (c : UInt8) : ∀ (l : List UInt8) (a : Nat), Lib.parseUint10 a (l ++ [c]) = match Lib.parseUint10 a l with | .ok n => Lib.parseUint10 n [c] | e => e
  | [], a => rfl
  | d :: r, a => by
    rw [List.cons_append, Lib.parseUint10, Lib.parseUint10]
    split
    · split
      · rfl
      · split
        · rfl
        · exact parse_app c r _
    · rfl
theorem parse_digits (u : Nat) (h : u < 1000000000000000000) : Lib.parseUint10 0 (Lib.decDigits u) = .ok u := by
  induction u using Nat.strongRecOn with
  | _ u ih =>
    rw [Lib.decDigits]
    split
    · rename_i h1
      rw [Lib.parseUint10, digit_ok h1, if_pos (by omega), if_neg (by omega), if_neg (by omega), Lib.parseUint10]
      congr 1; omega
    · rw [parse_app, ih (u / 10) (by omega) (by omega)]
      have hd := digit_ok (u := u % 10) (by omega)
      simp only
      rw [Lib.parseUint10, hd, if_pos (by omega), if_neg (by omega), if_neg (by omega), Lib.parseUint10]
      congr 1; omega
theorem atoi_digits (u : Nat) (h : u < 1000000000000000000) : Lib.atoiAll (Lib.decDigits u) = .ok (u : Int) := by
  cases hd : Lib.decDigits u with
  | nil => exact absurd hd (digits_ne u)
  | cons c r =>
    have hc := digits_all u c (by rw [hd]; simp)
    have hp := parse_digits u h
    rw [hd] at hp
    have hm : Lib.parseMag (c :: r) = .ok u := by unfold Lib.parseMag; rw [if_neg (by simp), hp]
    unfold Lib.atoiAll
    have h1 : ¬ (c.toNat = 43 ∨ c.toNat = 45) := by omega
    have h2 : ¬ c.toNat = 45 := by omega
    simp only
    rw [if_neg h1, hm]
    simp only [h2, not_false_eq_true, true_and, false_and, if_false]
    show (if 9223372036854775808 ≤ u then Lib.NumEnd.range else Lib.NumEnd.ok (u : Int)) = _
    rw [if_neg (by omega)]
theorem itoa_nat {n : Int} (h : 0 ≤ n) : Lib.itoa n = Lib.decDigits n.toNat := by unfold Lib.itoa; rw [if_neg (by omega)]
theorem itoa_blank {n : Int} (h : 0 ≤ n) : ∀ c ∈ Lib.itoa n, c ≠ 32 := by rw [itoa_nat h]; exact digits_blank _
theorem atoi_itoa {n : Int} (h : 0 ≤ n) (h1 : n < 1000000000000000000) : Lib.atoiAll (Lib.itoa n) = .ok n := by
  rw [itoa_nat h, atoi_digits _ (by omega)]; congr 1; omega
theorem digits_len (u : Nat) (h : u < 100000000) : (Lib.decDigits u).length ≤ 8 := by
  rw [Lib.decDigits_length]
  have : ∀ (k v : Nat), v < 10 ^ k → 1 ≤ k → Lib.nDigits v ≤ k := by
    intro k
    induction k with
    | zero => intro v _ h; omega
    | succ k ih =>
      intro v hv _
      by_cases hs : v < 10
      · rw [Lib.nDigits_small hs]; omega
      · rw [Lib.nDigits_big hs]
        have hk : 1 ≤ k := by
          rcases Nat.eq_zero_or_pos k with rfl | hk
          · simp at hv; omega
          · exact hk
        have := ih (v / 10) (by rw [Nat.pow_succ] at hv; omega) hk
        omega
  exact this 8 u (by have e : (10 : Nat) ^ 8 = 100000000 := by decide
                     omega) (by omega)
/-! ### texts -/
theorem ba_ext {a b : ByteArray} (h : a.data.toList = b.data.toList) : a = b := by
  cases a; cases b
  congr 1
  exact Array.toList_inj.1 h
instance : ReflBEq ByteArray where
  rfl {a} := by
    cases a
    exact beq_self_eq_true (α := Array UInt8) _
instance : LawfulBEq ByteArray where
  eq_of_beq {a b} h := by
    cases a; cases b
    congr 1
    exact eq_of_beq (α := Array UInt8) h
theorem ba_size (s : ByteArray) : s.size = s.data.toList.length := by rw [Array.length_toList]; rfl
theorem ba_get (s : ByteArray) (i : Nat) : s[i]? = s.data.toList[i]? := by
  by_cases h : i < s.size
  · rw [getElem?_pos s i h, List.getElem?_eq_getElem (by rw [← ba_size]; exact h)]; rfl
  · rw [getElem?_neg s i h, List.getElem?_eq_none (by rw [← ba_size]; omega)]
/-- Texts between blanks. -/
theorem split_list (s : ByteArray) : (Lib.splitB ⟨#[32]⟩ 0 (Lib.countB s ⟨#[32]⟩) s).map (·.data.toList) = wsp s.data.toList := by
  rw [Lib.splitB_data]
  exact split_wsp _
end Go.Proofs.YtnnhmgcigoiceaaGreatDoor
