/-
  What is proved: what the specification's question whether a gate can be bare returns.
-/
import Derived.Test.YthogdhepjcomjaaGreatDoorWatX
namespace Go.Proofs.YthogdhepjcomjaaGreatDoor
open Go Go.Proofs.YthogdhepjcomjaaGreatDoor.Wh

/-! ### one more bound -/
def tgI (F : Nat → Nat → Int) (u l : Nat) (b : Int) : Nat → Nat → Int := fun x y => imin (F x y) (F x u + b + F l y)
/-- Bounds that are as close as they can be. -/
structure Cm (n : Nat) (F : Nat → Nat → Int) : Prop where
  zero : ∀ a, a < n → F a a = 0
  tri : ∀ a b c, a < n → b < n → c < n → F a c ≤ F a b + F b c
def SolM (n : Nat) (F : Nat → Nat → Int) (x : Nat → Int) : Prop := ∀ a b, a < n → b < n → x a - x b ≤ F a b
theorem Cm.tight {n : Nat} {F : Nat → Nat → Int} (h : Cm n F) {u l : Nat} (hu : u < n) (hl : l < n) {b : Int} (hb : 0 ≤ b + F l u) : Cm n (tgI F u l b) := by
  refine ⟨fun a ha => ?_, fun x y z hx hy hz => ?_⟩
  · have := h.zero a ha
    have := h.tri l a u hl ha hu
    unfold tgI imin
    split <;> omega
  · have t1 := h.tri x y z hx hy hz
    have t2 := h.tri x y u hx hy hu
    have t3 := h.tri l y z hl hy hz
    have t5 := h.tri l y u hl hy hu
    have t6 := h.tri x u z hx hu hz
    unfold tgI imin
    split <;> split <;> split <;> omega
theorem Cm.diag {n : Nat} {F : Nat → Nat → Int} (h : Cm n F) {u l : Nat} (hu : u < n) (hl : l < n) {b : Int} : ((List.range n).all fun a => decide (0 ≤ tgI F u l b a a)) = true ↔ 0 ≤ b + F l u := by
  rw [List.all_eq_true]
  constructor
  · intro q
    have hq := q u (List.mem_range.2 hu)
    rw [decide_eq_true_eq] at hq
    have hz := h.zero u hu
    unfold tgI imin at hq
    split at hq <;> omega
  · intro q a ha
    rw [decide_eq_true_eq, (h.tight hu hl q).zero a (List.mem_range.1 ha)]
    omega
theorem Cm.sol {n : Nat} {F : Nat → Nat → Int} (h : Cm n F) {u l : Nat} (hu : u < n) (hl : l < n) {b : Int} {x : Nat → Int} : SolM n (tgI F u l b) x ↔ SolM n F x ∧ x u - x l ≤ b := by
  constructor
  · intro q
    refine ⟨fun a c ha hc => ?_, ?_⟩
    · have := q a c ha hc
      unfold tgI imin at this
      split at this <;> omega
    · have hq := q u l hu hl
      have hz := h.zero u hu
      have hz2 := h.zero l hl
      unfold tgI imin at hq
      split at hq <;> omega
  · rintro ⟨q, q2⟩ a c ha hc
    have := q a c ha hc
    have := q a u ha hu
    have := q l c hl hc
    unfold tgI imin
    split <;> omega
theorem Cm.none {n : Nat} {F : Nat → Nat → Int} {u l : Nat} (hu : u < n) (hl : l < n) {b : Int} (hb : ¬ 0 ≤ b + F l u) {x : Nat → Int} (hx : SolM n F x) : ¬ x u - x l ≤ b := by
  have := hx l u hl hu
  omega
def BdM (n : Nat) (F : Nat → Nat → Int) : Prop := ∀ a b, a < n → b < n → -4398046511104 ≤ F a b ∧ F a b ≤ 4398046511104
theorem Cm.bd {n : Nat} {F : Nat → Nat → Int} (h : Cm n F) (hb : BdM n F) {u l : Nat} (hu : u < n) (hl : l < n) {b : Int} (hq : 0 ≤ b + F l u) : BdM n (tgI F u l b) := by
  have ht := h.tight hu hl hq
  have hle : ∀ a c, tgI F u l b a c ≤ F a c := fun a c => by unfold tgI imin; split <;> omega
  intro a c ha hc
  have h1 := ht.tri a c a ha hc ha
  have h2 := ht.zero a ha
  have h3 := hle a c
  have h4 := hle c a
  have h5 := hb a c ha hc
  have h6 := hb c a hc ha
  omega
theorem mat_len {n : Nat} {F : Nat → Nat → Int} : (mat n F).length = n := by simp [mat]
theorem f108_eq {fuel n u l : Nat} {F : Nat → Nat → Int} {b : Int} (hn : n ≤ 9) (hf : 20 < fuel) (hu : u < n) (hl : l < n) (hF : BdM n F) (hb : -1073741824 ≤ b ∧ b ≤ 1073741824) :
    M.f108 fuel (mat n F) (u : Int) (l : Int) b = some (if ((List.range n).all fun a => decide (0 ≤ tgI F u l b a a)) = true then (mat n (tgI F u l b), true) else ([], false)) := by
  unfold M.f108
  simp only [mat_len, Option.bind_eq_bind]
  have outer : loopM (ρ := (List (List Int))) (fun s_1 : Int × (List (List Int)) =>
    (if (decide (s_1.1 < (n : Int))) = true then (
    (loopM (ρ := (List Int)) (fun s_6 : Int × (List Int) =>
      (if (decide (s_6.1 < (n : Int))) = true then (
      (idx (mat n F) s_1.1).bind fun v_11 =>
      (idx v_11 s_6.1).bind fun v_13 =>
      (idx (mat n F) s_1.1).bind fun v_15 =>
      (idx v_15 (u : Int)).bind fun v_17 =>
      (idx (mat n F) (l : Int)).bind fun v_19 =>
      (idx v_19 s_6.1).bind fun v_21 =>
      (app s_6.2 ([(imin v_13 (wr ((wr (v_17 + b)) + v_21)))] : List Int)).bind fun z_23 =>
      some (.again ((wr (s_6.1 + 1)), z_23)))
      else (
      some (.leave s_6.2)))) fuel ((0, ([] : List Int)) : Int × (List Int))).bind fun o_7 =>
      (app s_1.2 ([o_7] : List (List Int))).bind fun z_30 =>
      some (.again ((wr (s_1.1 + 1)), z_30)))
    else (
    some (.leave s_1.2)))) fuel ((0, ([] : List (List Int))) : Int × (List (List Int))) = some (mat n (tgI F u l b)) := by
    refine loopM_go (N := n) (fun a : Nat => ((a : Int), (List.range a).map fun x => (List.range n).map fun y => tgI F u l b x y)) _ rfl (by omega) (fun a ha => ?_) (by simp [mat])
    simp only [lt_dec ha, if_true]
    have inner : loopM (ρ := (List Int)) (fun s_6 : Int × (List Int) =>
      (if (decide (s_6.1 < (n : Int))) = true then (
      (idx (mat n F) (a : Int)).bind fun v_11 =>
      (idx v_11 s_6.1).bind fun v_13 =>
      (idx (mat n F) (a : Int)).bind fun v_15 =>
      (idx v_15 (u : Int)).bind fun v_17 =>
      (idx (mat n F) (l : Int)).bind fun v_19 =>
      (idx v_19 s_6.1).bind fun v_21 =>
      (app s_6.2 ([(imin v_13 (wr ((wr (v_17 + b)) + v_21)))] : List Int)).bind fun z_23 =>
      some (.again ((wr (s_6.1 + 1)), z_23)))
      else (
      some (.leave s_6.2)))) fuel ((0, ([] : List Int)) : Int × (List Int)) = some ((List.range n).map fun y => tgI F u l b a y) := by
      refine loopM_go (N := n) (fun c : Nat => ((c : Int), (List.range c).map fun y => tgI F u l b a y)) _ rfl (by omega) (fun c hc => ?_) (by simp)
      have b1 := hF a u ha hu
      have b2 := hF l c hl hc
      simp only [lt_dec hc, if_true, idx_mat ha, idx_mat hl, idx_row hc, idx_row hu, Option.bind_some, wr_succ (show c < 4294967296 by omega), wr_id (n := F a u + b) (show -9223372036854775808 ≤ F a u + b by omega) (by omega),
        wr_id (n := F a u + b + F l c) (show -9223372036854775808 ≤ F a u + b + F l c by omega) (by omega)]
      rw [app_one (by simp; omega), List.range_succ, List.map_append]
      rfl
    rw [inner]
    simp only [Option.bind_some]
    rw [app_one (by simp; omega), List.range_succ, List.map_append, wr_succ (by omega)]
    rfl
  rw [outer]
  simp only [Option.bind_some]
  refine bnd (loopM_test (ρ := Unit ⊕ ((List (List Int)) × Bool)) (N := n) (fun a : Nat => (a : Int)) (fun a => decide (0 ≤ tgI F u l b a a)) (.inr ([], false)) (.inl ()) rfl (by omega) (fun a ha _ => ?_) (by simp)) ?_
  · simp only [lt_dec ha, if_true, idx_mat ha, idx_row ha, Option.bind_some, wr_succ (show a < 4294967296 by omega)]
    by_cases q : 0 ≤ tgI F u l b a a
    · rw [if_neg (by rw [decide_eq_true_eq]; omega), if_pos (by rw [decide_eq_true_eq]; exact q)]
    · rw [if_pos (by rw [decide_eq_true_eq]; omega), if_neg (by rw [decide_eq_true_eq]; exact q)]
  · generalize ((List.range n).all fun a => decide (0 ≤ tgI F u l b a a)) = v
    cases v <;> rfl
section
variable {r : S_api_Roster} (h : Vd r)
include h
/-- None of some turns guards, by numbers that clocks show ahead of the ground. -/
def NgM (r : S_api_Roster) (l : List Int) (x : Nat → Int) : Prop := ∀ y ∈ l, x (tn r y).2.1.toNat - x r.2.2.2.1.length ≤ (tn r y).2.2.1 - 1 ∨ x r.2.2.2.1.length - x (tn r y).2.2.2.1.toNat ≤ 0 - (tn r y).2.2.2.2.1
theorem f109_so : ∀ (l : List Int) (F : Nat → Nat → Int) (fuel : Nat), l.length + 21 < fuel → l.all (inR r) = true → Cm (r.2.2.2.1.length + 1) F → BdM (r.2.2.2.1.length + 1) F →
    ∃ v, M.f109 fuel r (mat (r.2.2.2.1.length + 1) F) l = some v ∧ (v = true ↔ ∃ x, SolM (r.2.2.2.1.length + 1) F x ∧ NgM r l x)
  | [], F, fuel + 1, _, _, hc, _ => by
    refine ⟨true, ?_, ⟨fun _ => ⟨fun a => F a r.2.2.2.1.length, fun a b ha hb => ?_, fun y hy => by cases hy⟩, fun _ => rfl⟩⟩
    · unfold M.f109
      rw [if_pos (by simp)]
    · have := hc.tri a b r.2.2.2.1.length ha hb (by omega)
      show F a r.2.2.2.1.length - F b r.2.2.2.1.length ≤ F a b
      omega
  | y :: l, F, fuel + 1, hf, ha, hc, hb => by
    rw [List.all_cons, Bool.and_eq_true] at ha
    have ty := turnB_iff.1 (h.turn ha.1)
    have h8 := h.n8
    rw [List.length_cons] at hf
    obtain ⟨ck, hck⟩ : ∃ k : Nat, (tn r y).2.1 = (k : Int) := ⟨(tn r y).2.1.toNat, by omega⟩
    obtain ⟨ck2, hck2⟩ : ∃ k : Nat, (tn r y).2.2.2.1 = (k : Int) := ⟨(tn r y).2.2.2.1.toNat, by omega⟩
    have hcn : ck < r.2.2.2.1.length + 1 := by omega
    have hcn2 : ck2 < r.2.2.2.1.length + 1 := by omega
    have hgn : r.2.2.2.1.length < r.2.2.2.1.length + 1 := by omega
    have ng : ∀ x, NgM r (y :: l) x ↔ (x ck - x r.2.2.2.1.length ≤ (tn r y).2.2.1 - 1 ∨ x r.2.2.2.1.length - x ck2 ≤ 0 - (tn r y).2.2.2.2.1) ∧ NgM r l x := fun x => by
      have ek : (tn r y).2.1.toNat = ck := by omega
      have ek2 : (tn r y).2.2.2.1.toNat = ck2 := by omega
      constructor
      · intro q
        have := q y (List.mem_cons_self ..)
        rw [ek, ek2] at this
        exact ⟨this, fun z hz => q z (List.mem_cons_of_mem _ hz)⟩
      · rintro ⟨q1, q2⟩ z hz
        rcases List.mem_cons.1 hz with e | hz
        · subst e; rw [ek, ek2]; exact q1
        · exact q2 z hz
    -- one branch
    have branch : ∀ (u l' : Nat) (b : Int), u < r.2.2.2.1.length + 1 → l' < r.2.2.2.1.length + 1 → -1073741824 ≤ b ∧ b ≤ 1073741824 → ∃ w, M.f108 fuel (mat (r.2.2.2.1.length + 1) F) (u : Int) (l' : Int) b = some w ∧ ∃ v, guardO w.2 (M.f109 fuel r w.1 l) = some v ∧ ((w.2 && v) = true ↔ ∃ x, SolM (r.2.2.2.1.length + 1) F x ∧ x u - x l' ≤ b ∧ NgM r l x) := by
      intro u l' b hu hl' hbb
      refine ⟨_, f108_eq (by omega) (by omega) hu hl' hb hbb, ?_⟩
      by_cases q : 0 ≤ b + F l' u
      · rw [if_pos ((hc.diag hu hl').2 q)]
        obtain ⟨v, e, hv⟩ := f109_so l (tgI F u l' b) fuel (by omega) ha.2 (hc.tight hu hl' q) (hc.bd hb hu hl' q)
        refine ⟨v, by simp only [guardO, e], ?_⟩
        rw [Bool.true_and, hv]
        constructor
        · rintro ⟨x, h1, h2⟩
          have := (hc.sol hu hl').1 h1
          exact ⟨x, this.1, this.2, h2⟩
        · rintro ⟨x, h1, h2, h3⟩
          exact ⟨x, (hc.sol hu hl').2 ⟨h1, h2⟩, h3⟩
      · rw [if_neg (fun q2 => q ((hc.diag hu hl').1 q2))]
        refine ⟨default, rfl, ?_⟩
        simp only [Bool.false_and, Bool.false_eq_true, false_iff]
        rintro ⟨x, h1, h2, _⟩
        exact Cm.none hu hl' q h1 h2
    obtain ⟨w1, e1, v1, g1, i1⟩ := branch ck r.2.2.2.1.length ((tn r y).2.2.1 - 1) hcn hgn (by omega)
    obtain ⟨w2, e2, v2, g2, i2⟩ := branch r.2.2.2.1.length ck2 (0 - (tn r y).2.2.2.2.1) hgn hcn2 (by omega)
    have ecut : ∀ c : Bool, guardO c (cutF (y :: l) 1) = some (if c = true then l else default) := fun c => by
      cases c with
      | true => unfold guardO cutF; simp
      | false => rfl
    have esel : ∀ (w : List (List Int) × Bool) (v : Bool), guardO w.2 (M.f109 fuel r w.1 l) = some v → guardO w.2 (M.f109 fuel r w.1 (if w.2 = true then l else default)) = some v := fun w v hw => by
      cases hq : w.2 with
      | true => rw [hq] at hw; rw [if_pos rfl]; exact hw
      | false => rw [hq] at hw; exact hw
    have ei0 : idx (y :: l) 0 = some y := rfl
    unfold M.f109
    rw [if_neg (by simp; omega)]
    simp only [ei0, Vd.idxT ha.1, hck, hck2, wr_id (n := (tn r y).2.2.1 - 1) (by omega) (by omega), wr_id (n := 0 - (tn r y).2.2.2.2.1) (by omega) (by omega), e1, e2, ecut, esel w1 v1 g1, esel w2 v2 g2, Option.bind_eq_bind, Option.bind_some]
    cases hw1 : (w1.2 && v1) with
    | true =>
      refine ⟨true, by simp, ⟨fun _ => ?_, fun _ => rfl⟩⟩
      obtain ⟨x, q1, q2, q3⟩ := i1.1 hw1
      exact ⟨x, q1, (ng x).2 ⟨.inl q2, q3⟩⟩
    | false =>
      refine ⟨w2.2 && v2, by simp, ?_⟩
      rw [i2]
      constructor
      · rintro ⟨x, q1, q2, q3⟩
        exact ⟨x, q1, (ng x).2 ⟨.inr q2, q3⟩⟩
      · rintro ⟨x, q1, q2⟩
        obtain ⟨q3 | q3, q4⟩ := (ng x).1 q2
        · have := i1.2 ⟨x, q1, q3, q4⟩
          rw [hw1] at this; cases this
        · exact ⟨x, q1, q3, q4⟩
end
end Go.Proofs.YthogdhepjcomjaaGreatDoor
