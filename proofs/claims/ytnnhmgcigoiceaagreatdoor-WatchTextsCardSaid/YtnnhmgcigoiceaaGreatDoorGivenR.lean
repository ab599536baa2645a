/-
  What is proved: slices.Repeat of one number (walked by hand).
-/
import Derived.Test.YtnnhmgcigoiceaaGreatDoorGiven
import Derived.Test.YtnnhmgcigoiceaaGreatDoorShelf
set_option linter.unusedVariables false
set_option maxRecDepth 100000
namespace Go.Proofs.YtnnhmgcigoiceaaGreatDoor
open Go Go.RowKit Go.Proofs.YtnnhmgcigoiceaaGreatDoor.Wh

section
variable {P : Program} {Γ : List (Nat × Pr)} {ty : TypeId}
theorem sp_toU {x : Operand} {T T' : TypeId} {n : Int} (hT : P.underlying T = some (.int .i64)) (hT' : P.underlying T' = some (.int .u64)) (hx : Od Γ x (isV n)) (h0 : 0 ≤ n) (h1 : n ≤ 8) : StepP P (.convert T T' x) ty Γ (Pr.is (.int .u64 n)) :=
  step_pure fun c w a hc hm => by
    have h2 := get_int hx hm (by simp [Op.operands])
    have e : IntKind.u64.wrap n = n := by
      have : n = 0 ∨ n = 1 ∨ n = 2 ∨ n = 3 ∨ n = 4 ∨ n = 5 ∨ n = 6 ∨ n = 7 ∨ n = 8 := by omega
      rcases this with rfl | rfl | rfl | rfl | rfl | rfl | rfl | rfl | rfl <;> decide
    exact ⟨.int .u64 n, by simp [execOp, plain, h2, convert, run_underlying hT, run_underlying hT', Conv.intToInt, e], rfl⟩
theorem sp_toI {x : Operand} {T T' : TypeId} {n : Int} (hT : P.underlying T = some (.int .u64)) (hT' : P.underlying T' = some (.int .i64)) (hx : Od Γ x (Pr.is (.int .u64 n))) (h0 : 0 ≤ n) (h1 : n ≤ 8) : StepP P (.convert T T' x) ty Γ (isV n) :=
  step_pure fun c w a hc hm => by
    have h2 : a.eval x = .int .u64 n := hx.get hm (by simp [Op.operands])
    have e : IntKind.i64.wrap n = n := by
      have : n = 0 ∨ n = 1 ∨ n = 2 ∨ n = 3 ∨ n = 4 ∨ n = 5 ∨ n = 6 ∨ n = 7 ∨ n = 8 := by omega
      rcases this with rfl | rfl | rfl | rfl | rfl | rfl | rfl | rfl | rfl <;> decide
    exact ⟨.int .i64 n, by simp [execOp, plain, h2, convert, run_underlying hT, run_underlying hT', Conv.intToInt, e], rfl⟩
theorem sp_gtrU {x : Operand} {T T' : TypeId} {m n : Int} (hx : Od Γ x (Pr.is (.int .u64 m))) : StepP P (.binOp .gtr T x (.const (.int .u64 n)) T') ty Γ (isV (decide (n < m))) :=
  step_pure fun c w a hc hm => by
    have h2 : a.eval x = .int .u64 m := hx.get hm (by simp [Op.operands])
    have h3 : a.eval (.const (.int .u64 n)) = .int .u64 n := rfl
    exact ⟨.bool (decide (n < m)), by simp [execOp, plain, h2, h3, eqGuard, binOp, Op.intCmp], rfl⟩
theorem rep_step {x : Int} {m n : Nat} (h : m ≤ n) : (List.replicate m x ++ List.replicate (n - m) 0).take m ++ ((List.replicate m x ++ List.replicate (n - m) 0).take m).take (n - m) ++ (List.replicate m x ++ List.replicate (n - m) 0).drop (m + (((List.replicate m x ++ List.replicate (n - m) 0).take m).take (n - m)).length) =
    List.replicate (m + min m (n - m)) x ++ List.replicate (n - (m + min m (n - m))) 0 := by
  have e1 : (List.replicate m x ++ List.replicate (n - m) 0).take m = List.replicate m x := by
    rw [List.take_append_of_le_length (by simp)]; simp
  rw [e1, List.take_replicate, List.length_replicate, List.replicate_append_replicate]
  have e2 : (List.replicate m x ++ List.replicate (n - m) (0 : Int)).drop (m + min (n - m) m) = List.replicate (n - (m + min m (n - m))) 0 := by
    rw [List.drop_append, List.length_replicate]
    have : (List.replicate m x).drop (m + min (n - m) m) = [] := by simp
    rw [this, List.nil_append, List.drop_replicate]
    congr 1; omega
  rw [e2, Nat.min_comm]
end
theorem wr_id8 {n : Int} (h1 : 0 ≤ n) (h2 : n ≤ 8) : wr n = n := by
  have : n = 0 ∨ n = 1 ∨ n = 2 ∨ n = 3 ∨ n = 4 ∨ n = 5 ∨ n = 6 ∨ n = 7 ∨ n = 8 := by omega
  rcases this with rfl | rfl | rfl | rfl | rfl | rfl | rfl | rfl | rfl <;> decide
theorem f91_is {n : Int} (h0 : 0 ≤ n) (h1 : n ≤ 8) : CallOK Tryz.prog 91 [Pr.is (.int .u64 1), Pr.is (.int .u64 n)] (isTup [Pr.is (.int .u64 0), Pr.is (.int .u64 n)]) := by
  intro F w vs hF hfit
  match vs, hfit with
  | [u, v], ⟨hu, hv, _⟩ =>
    have hu : u = .int .u64 1 := hu
    have hv : v = .int .u64 n := hv
    subst hu; subst hv
    have h := Tryz.bits_Mul 1 n.toNat (by omega) (by omega) w
    have e : ((n.toNat : Nat) : Int) = n := by omega
    rw [e] at h
    have e1 : 1 * n.toNat / 18446744073709551616 = 0 := by omega
    have e2 : 1 * n.toNat % 18446744073709551616 = n.toNat := by omega
    rw [e1, e2, e] at h
    exact h.mono fun e w' ⟨he, hw⟩ => by
      subst hw
      exact ⟨_, he, Wh.Below.refl _ _, _, rfl, rfl, rfl, trivial⟩
theorem en91' : Enters Tryz.prog 91 := enters_of Tryz.func91 (by kernel_rfl) rfl
theorem f49_ok {p0 : List Int} {p1 : Int} {r : List Int} (h : M.f49 p0 p1 = some r) : CallI Tryz.prog 49 [isV p0, isV p1] (resSl 3 r) := by
  unfold M.f49 at h
  split at h
  · rename_i x
    split at h
    · rename_i hn
      cases h
      obtain ⟨n, rfl⟩ : ∃ n : Nat, p1 = (n : Int) := ⟨p1.toNat, by omega⟩
      have hn1 : 1 ≤ n := by omega
      have hn8 : n ≤ 8 := by omega
      refine callI_of Tryz.func49 rfl Tryz.ntmps49 rfl fun F0 w0 a hS => ?_
      refine ws ?_
      refine st_reg mixed (by kernel_rfl) hS ?_
      refine cg (sp_assign (φ := Pr.is (.slice none 0 0)) (odc fun _ => rfl)) ?_
      refine sn fun a w hS => ?_
      refine et ?_
      refine ws ?_
      refine ws ?_
      refine st_reg mixed (by kernel_rfl) hS ?_
      refine mv rfl ?_
      refine cg (sp_lss (od rfl) (odi)) ?_
      refine sn fun a w hS => ?_
      refine et ?_
      refine st_cond hS rfl (fun hb => ?_) (fun hb => ?_)
      · exact absurd hb (by simp)
      refine wp_skip ?_
      refine et ?_
      refine ws ?_
      refine st_reg mixed (by kernel_rfl) hS ?_
      refine mv rfl ?_
      refine cg (sp_len Tryz.underlying39 (od rfl)) ?_
      refine cg (sp_toU (n := 1) Tryz.underlying3 Tryz.underlying110 (od rfl) (by omega) (by omega)) ?_
      refine mv rfl ?_
      refine cg (sp_toU (n := (n : Int)) Tryz.underlying3 Tryz.underlying110 (od rfl) (by omega) (by omega)) ?_
      refine cg (sp_call en91' (f91_is (n := (n : Int)) (by omega) (by omega)) ⟨od rfl, od rfl, trivial⟩) ?_
      refine mv rfl ?_
      refine cg (sp_extract (od rfl) rfl) ?_
      refine cg (sp_extract (od rfl) rfl) ?_
      refine cg (sp_assign (od rfl)) ?_
      refine cg (sp_assign (od rfl)) ?_
      refine sn fun a w hS => ?_
      refine et ?_
      refine ws ?_
      refine ws ?_
      refine st_reg mixed (by kernel_rfl) hS ?_
      refine mv rfl ?_
      refine cg (sp_gtrU (od rfl)) ?_
      refine mv rfl ?_
      refine sc (sgF rfl fun hG => sp_move (od rfl)) ?_
      refine sc (sgF rfl fun hG => sp_gtrU (odw rfl hG)) ?_
      refine cg (sp_pickOr (od rfl) fun hg => odw rfl (not_t hg)) ?_
      refine sn fun a w hS => ?_
      refine et ?_
      refine st_cond hS rfl (fun hb => ?_) (fun hb => ?_)
      · exact absurd hb (by simp; omega)
      refine wp_skip ?_
      refine et ?_
      have hmk : mk (n : Int) (0 : Int) = some (List.replicate n 0) := by unfold mk; rw [if_pos (by omega)]; rfl
      refine ws ?_
      refine l_start ?_
      refine s_c hS (sg (sp_move (od rfl))) rfl fun a w hS hM => ?_
      refine s_c hS (sg (sp_toI (n := (n : Int)) Tryz.underlying110 Tryz.underlying3 (od rfl) (by omega) (by omega))) rfl fun a w hS hM => ?_
      refine s_make sl39 ze3 zi3 rfl hS (od rfl) hmk rfl fun a w u hS hM => ?_
      refine s_c hS (sg (sp_assign (od rfl))) rfl fun a w hS hM => ?_
      refine l_end ?_
      refine et ?_
      obtain ⟨g, cap, rfl, hcap⟩ := hS.shape (k := 0) (E := 3) (xs := List.replicate n (0 : Int)) rfl (by intro e; have := congrArg List.length e; simp at this; omega)
      have hlen : (List.replicate n (0 : Int)).length = n := by simp
      rw [hlen] at hcap
      rw [hlen] at hS
      have hS : St 48 F0 [Item.sl (α := Int) 3 (.slice (some ⟨g, 0, none⟩) n cap) (List.replicate n (0 : Int))] [(0, isV [x]), (7, Pr.is (.slice (some ⟨g, 0, none⟩) n cap))] w0 a w := hS.weak ⟨od rfl, od rfl, trivial⟩
      refine ws ?_
      refine l_start ?_
      refine s_c hS (sg (sp_move (od rfl))) rfl fun a w hS hM => ?_
      refine s_c hS (sg (sp_move (od rfl))) rfl fun a w hS hM => ?_
      refine s_copyO (k := 0) (m := n) (mc := cap) (off := 0) (ys := [x]) (Δ := [(7, Pr.is (.slice (some ⟨g, 0, none⟩) n cap))]) (by intro q e; cases e; decide) rfl hlen sl39 hS rfl ⟨od rfl, trivial⟩ ⟨fun _ _ _ _ h => h, trivial⟩ (od rfl) (by omega) (src_list rfl hS (od rfl)) fun a w hS hM => ?_
      have e0 : min [x].length n = 1 := by simp; omega
      have e1 : (List.replicate n (0 : Int)).take 0 ++ [x].take n ++ (List.replicate n (0 : Int)).drop (0 + ([x].take n).length) = List.replicate 1 x ++ List.replicate (n - 1) 0 := by
        have : [x].take n = [x] := List.take_of_length_le (by simpa using hn1)
        rw [this]; simp
      have hS : St 48 F0 [Item.sl (α := Int) 3 (.slice (some ⟨g, 0, none⟩) n cap) (List.replicate 1 x ++ List.replicate (n - 1) 0)] [(33, isV ((1 : Nat) : Int)), (7, Pr.is (.slice (some ⟨g, 0, none⟩) n cap))] w0 a w := by
        rw [← e1, ← e0]
        exact hS
      refine s_c hS (sg (sp_assign (od rfl))) rfl fun a w hS hM => ?_
      refine l_end ?_
      refine et ?_
      refine ws ?_
      refine wp_block ?_
      refine c_loop (fun K a w => ∃ m, 1 ≤ m ∧ m ≤ n ∧ n + 1 - m ≤ K ∧ St 48 F0 [Item.sl (α := Int) 3 (.slice (some ⟨g, 0, none⟩) n cap) (List.replicate m x ++ List.replicate (n - m) 0)] [(7, Pr.is (.slice (some ⟨g, 0, none⟩) n cap)), (8, isV (α := Int) ((m : Nat) : Int))] w0 a w) ?_ ?_ (k := n) ⟨1, Nat.le_refl _, hn1, by omega, hS.weak ⟨od rfl, od rfl, trivial⟩⟩
      · rintro a w ⟨m, h1, h2, h3, _⟩; omega
      rintro K a w ⟨m, h1, h2, h3, hS⟩
      have hL : (List.replicate m x ++ List.replicate (n - m) (0 : Int)).length = n := by simp; omega
      refine ws ?_
      refine ws ?_
      have hS := st_os (E := 3) 0 7 hS rfl rfl
      refine st_reg mixed (by kernel_rfl) hS ?_
      refine mv rfl ?_
      refine mv rfl ?_
      refine cg (sp_lenOS Tryz.underlying39 (od rfl)) ?_
      refine cg (sp_lss (od rfl) (od rfl)) ?_
      refine sn fun a w hS => ?_
      refine et ?_
      refine st_cond hS rfl (fun hb => ?_) (fun hb => ?_)
      · refine wp_skip ?_
        refine et ?_
        have hmn : m < n := by rw [hL] at hb; simpa using hb
        have hS := hS.weak (Δ := [(7, Pr.is (.slice (some ⟨g, 0, none⟩) n cap)), (8, isV (α := Int) ((m : Nat) : Int))]) ⟨odOS rfl, od rfl, trivial⟩
        refine wp_block ?_
        refine st_float mixed [1, 0, 0, 0, 0, 0, 0, 2, 2, 2] (by kernel_rfl) (by kernel_rfl) hS ?_
        refine sfF (sy (sy_move (od rfl))) ?_
        refine sfA (sg (sp_move (od rfl))) ?_
        refine sfA (sg (sp_move (od rfl))) ?_
        refine sfA (sg (sp_tail (m := ((m : Nat) : Int)) rfl sl39 (od rfl) (od rfl) (by omega) (by omega) hcap)) ?_
        refine sfA (sg (sp_move (od rfl))) ?_
        refine sfA (sg (sp_move (od rfl))) ?_
        refine sfA (sg (sp_cut (m := ((m : Nat) : Int)) sl39 (od rfl) (od rfl) ⟨by omega, .inr ⟨g, n, cap, rfl, by omega⟩⟩)) ?_
        refine sfT ?_
        refine sfT ?_
        refine sfT ?_
        refine sfN fun c a w hS hC => ?_
        refine ls ?_
        refine s_copyO (k := 0) (m := n - m) (mc := cap - m) (off := m) (ys := (List.replicate m x ++ List.replicate (n - m) (0 : Int)).take m) (Δ := [(7, Pr.is (.slice (some ⟨g, 0, none⟩) n cap)), (38, isV (α := Int) ((m : Nat) : Int))]) (by intro q e; cases e; decide) rfl hL sl39 hS rfl ⟨od rfl, od rfl, trivial⟩ ⟨fun _ _ _ _ h => h, fun _ _ _ _ h => h, trivial⟩ (od rfl) (by omega) (src_own (k := 0) (E := 3) (cap := cap) (q := m) (qc := cap) rfl hL hS rfl (od rfl) rfl (by omega)) fun a w hS hM => ?_
        have hC := Mem.le_trans hC hM
        refine s_next hC ?_
        have e2 : min ((List.replicate m x ++ List.replicate (n - m) (0 : Int)).take m).length (n - m) = min m (n - m) := by rw [List.length_take, hL]; omega
        have hS : St 48 F0 [Item.sl (α := Int) 3 (.slice (some ⟨g, 0, none⟩) n cap) (List.replicate (m + min m (n - m)) x ++ List.replicate (n - (m + min m (n - m))) 0)] [(45, isV (α := Int) ((min m (n - m) : Nat) : Int)), (7, Pr.is (.slice (some ⟨g, 0, none⟩) n cap)), (38, isV (α := Int) ((m : Nat) : Int))] w0 a w := by
          rw [← rep_step h2, ← e2]
          exact hS
        refine ls ?_
        refine s_c hS (sg (sp_add (od rfl) (od rfl))) rfl fun a w hS hM => ?_
        have hC := Mem.le_trans hC hM
        refine s_next hC ?_
        refine ls ?_
        refine s_c hS (sg (sp_assign (od rfl))) rfl fun a w hS hM => ?_
        have hC := Mem.le_trans hC hM
        refine s_next hC ?_
        refine s_done ?_
        have e3 : wr (((m : Nat) : Int) + ((min m (n - m) : Nat) : Int)) = (((m + min m (n - m)) : Nat) : Int) := by
          rw [show ((m : Nat) : Int) + ((min m (n - m) : Nat) : Int) = ((m + min m (n - m) : Nat) : Int) from by simp]
          exact wr_id8 (by omega) (by omega)
        rw [e3] at hS
        exact ⟨m + min m (n - m), by omega, by omega, by omega, hS.weak ⟨od rfl, od rfl, trivial⟩⟩
      refine wp_exit ?_
      have hmn : m = n := by
        have : ¬ (m : Int) < (n : Int) := by rw [hL] at hb; simpa using hb
        omega
      subst hmn
      refine exit_thenE ?_
      refine exit_thenE ?_
      have hS := hS.weak (Δ := [(7, Pr.is (.slice (some ⟨g, 0, none⟩) m cap))]) ⟨odOS rfl, trivial⟩
      have e4 : List.replicate m x ++ List.replicate (m - m) (0 : Int) = List.replicate m x := by simp
      rw [e4] at hS
      refine exit_here ?_
      refine ws ?_
      refine st_reg mixed (by kernel_rfl) hS ?_
      refine mv rfl ?_
      refine cg (sp_assign (od rfl)) ?_
      refine sn fun a w hS => ?_
      refine et ?_
      refine wp_ret ?_
      exact st_retI 0 () hS ((run_results1 Tryz.results49 a w).trans (congrArg (fun v => Result.ok v w) (hS.get (t := 4) rfl))) rfl
    · cases h
  · cases h
end Go.Proofs.YtnnhmgcigoiceaaGreatDoor
