/-
  What is proved: for every input there is a fuel with which the model of WatchTexts returns true.
-/
import Derived.Test.YtnnhmgcigoiceaaGreatDoorModelF
import Derived.Test.YtnnhmgcigoiceaaGreatDoorPlain
import Derived.Test.YtnnhmgcigoiceaaGreatDoorTxt
import Derived.KernelRfl
namespace Go.Proofs.YtnnhmgcigoiceaaGreatDoor
open Go Go.Proofs.YtnnhmgcigoiceaaGreatDoor.Wh
set_option maxRecDepth 100000

theorem sane_ok : M.f4 1000 = some true := by kernel_rfl
/-! ### turns that can be printed -/
def okT (t : S_api_Turn) : Bool := ((((((((((((decide (0 ≤ t.1)) && (decide (t.1 < 8))) && (decide (0 ≤ t.2.1))) && (decide (t.2.1 < 8))) && (decide (0 ≤ t.2.2.2.1))) && (decide (t.2.2.2.1 < 8))) && (decide (0 ≤ t.2.2.1))) && (decide (t.2.2.1 ≤ 16777216))) && (decide (0 ≤ t.2.2.2.2.1))) && (decide (t.2.2.2.2.1 ≤ 16777216))) && (decide (0 ≤ t.2.2.2.2.2))) && (decide (t.2.2.2.2.2 ≤ 10000)))
theorem f29_eq (t : S_api_Turn) : M.f29 t = some (okT t) := rfl
theorem f54_eq (x a b : Int) : M.f54 x a b = some (decide (a ≤ x) && decide (x ≤ b)) := rfl
theorem guardO_bool (G v : Bool) : guardO G (some v) = some (G && v) := by cases G <;> rfl
theorem f26_eq (t : S_api_Turn) : M.f26 t = some (okT t) := by
  have e : ∀ x : Int, decide (x ≤ 7) = decide (x < 8) := fun x => by apply Bool.eq_iff_iff.2; simp; omega
  unfold M.f26 okT
  simp only [f54_eq, e, Option.bind_eq_bind, Option.bind_some, guardO_bool]
  congr 1
  generalize decide (0 ≤ t.1) = a1, decide (t.1 < 8) = a2, decide (0 ≤ t.2.1) = a3, decide (t.2.1 < 8) = a4, decide (0 ≤ t.2.2.2.1) = a5, decide (t.2.2.2.1 < 8) = a6, decide (0 ≤ t.2.2.1) = a7, decide (t.2.2.1 ≤ 16777216) = a8, decide (0 ≤ t.2.2.2.2.1) = a9, decide (t.2.2.2.2.1 ≤ 16777216) = b1, decide (0 ≤ t.2.2.2.2.2) = b2, decide (t.2.2.2.2.2 ≤ 10000) = b3
  cases a1 <;> cases a2 <;> cases a3 <;> cases a4 <;> cases a5 <;> cases a6 <;> simp
  cases a7 <;> cases a8 <;> cases a9 <;> cases b1 <;> simp
theorem okT_out {t : S_api_Turn} (h : okT t = true) : (0 ≤ t.1 ∧ t.1 ≤ 16777216) ∧ (0 ≤ t.2.1 ∧ t.2.1 ≤ 16777216) ∧ (0 ≤ t.2.2.1 ∧ t.2.2.1 ≤ 16777216) ∧ (0 ≤ t.2.2.2.1 ∧ t.2.2.2.1 ≤ 16777216) ∧ (0 ≤ t.2.2.2.2.1 ∧ t.2.2.2.2.1 ≤ 16777216) ∧ (0 ≤ t.2.2.2.2.2 ∧ t.2.2.2.2.2 ≤ 16777216) := by
  unfold okT at h
  simp at h
  omega
theorem okT_small {t : S_api_Turn} (h : okT t = true) : t.1 ≤ 7 ∧ t.2.1 ≤ 7 ∧ t.2.2.2.1 ≤ 7 := by
  unfold okT at h
  simp at h
  omega
def toBA (l : List UInt8) : ByteArray := ⟨l.toArray⟩
theorem toBA_list (l : List UInt8) : (toBA l).data.toList = l := rfl
theorem toBA_of (s : ByteArray) : toBA s.data.toList = s := ba_ext rfl
/-- The text of a turn. -/
def prL (t : S_api_Turn) : List UInt8 := Lib.itoa t.1 ++ 32 :: (Lib.itoa t.2.1 ++ 32 :: (Lib.itoa t.2.2.1 ++ 32 :: (Lib.itoa t.2.2.2.1 ++ 32 :: (Lib.itoa t.2.2.2.2.1 ++ 32 :: Lib.itoa t.2.2.2.2.2))))
theorem f27_eq {n : Int} (h0 : 0 ≤ n) (h1 : n ≤ 16777216) : M.f27 n = some (toBA (Lib.itoa n)) := by unfold M.f27; rw [if_pos (by omega)]; rfl
theorem itoa_len {n : Int} (h0 : 0 ≤ n) (h1 : n ≤ 16777216) : (Lib.itoa n).length ≤ 8 := by rw [itoa_nat h0]; exact digits_len _ (by omega)
theorem itoa_len1 {n : Int} (h0 : 0 ≤ n) (h1 : n ≤ 7) : (Lib.itoa n).length ≤ 1 := by
  rw [itoa_nat h0, Lib.decDigits, dif_pos (by omega)]
  exact Nat.le_refl 1
theorem cat_eq {a b : List UInt8} (h : a.length + b.length ≤ 1000000) : cat (toBA a) (toBA b) = some (toBA (a ++ b)) := by
  unfold cat
  rw [if_pos (by rw [ba_size, ba_size, toBA_list, toBA_list]; exact h)]
  exact congrArg some (ba_ext (by rw [ByteArray.data_append]; simp [toBA]))
def prR (t : S_api_Turn) : ByteArray × Int := if okT t = true then (toBA (prL t), 0) else (toBA [], 1)
theorem f5_eq (t : S_api_Turn) : M.f5 t = some (prR t) := by
  unfold M.f5 prR
  refine bnd (f26_eq t) ?_
  cases h : okT t with
  | false => rfl
  | true =>
    obtain ⟨⟨a0, a1⟩, ⟨b0, b1⟩, ⟨c0, c1⟩, ⟨d0, d1⟩, ⟨e0, e1⟩, ⟨f0, f1⟩⟩ := okT_out h
    rw [if_neg (by simp), if_pos rfl]
    refine bnd (y := [toBA (Lib.itoa t.1), toBA (Lib.itoa t.2.1), toBA (Lib.itoa t.2.2.1), toBA (Lib.itoa t.2.2.2.1), toBA (Lib.itoa t.2.2.2.2.1), toBA (Lib.itoa t.2.2.2.2.2)]) ?_ ?_
    · unfold Wh.forS
      rw [if_pos (by simp)]
      have n6 : (((([t.1, t.2.1, t.2.2.1, t.2.2.2.1, t.2.2.2.2.1, t.2.2.2.2.2] : List Int).length : Int)) - 0).toNat = 6 := rfl
      rw [n6]
      simp only [Wh.stepsFrom, idx]
      have z1 := f27_eq a0 a1; have z2 := f27_eq b0 b1; have z3 := f27_eq c0 c1; have z4 := f27_eq d0 d1; have z5 := f27_eq e0 e1; have z6 := f27_eq f0 f1
      simp [z1, z2, z3, z4, z5, z6, app]
    · have l1 := itoa_len a0 a1; have l2 := itoa_len b0 b1; have l3 := itoa_len c0 c1; have l4 := itoa_len d0 d1; have l5 := itoa_len e0 e1; have l6 := itoa_len f0 f1
      have hj : Lib.join ([toBA (Lib.itoa t.1), toBA (Lib.itoa t.2.1), toBA (Lib.itoa t.2.2.1), toBA (Lib.itoa t.2.2.2.1), toBA (Lib.itoa t.2.2.2.2.1), toBA (Lib.itoa t.2.2.2.2.2)].map (·.data.toList)) [32] = prL t := by
        simp [Lib.join, prL, toBA, List.intercalate]
      refine bnd (y := toBA (prL t)) ?_ rfl
      unfold M.f28
      rw [show (⟨#[32]⟩ : ByteArray).data.toList = [32] from rfl, hj, if_pos ⟨by simp, by simp, by unfold prL; simp; omega⟩]
      rfl
theorem f6_eq (t : S_api_Turn) : M.f6 t = some (prR t) := by
  unfold M.f6 prR
  refine bnd (f29_eq t) ?_
  cases h : okT t with
  | false => rfl
  | true =>
    obtain ⟨⟨a0, a1⟩, ⟨b0, b1⟩, ⟨c0, c1⟩, ⟨d0, d1⟩, ⟨e0, e1⟩, ⟨f0, f1⟩⟩ := okT_out h
    rw [if_neg (by simp), if_pos rfl]
    have l1 := itoa_len a0 a1; have l2 := itoa_len b0 b1; have l3 := itoa_len c0 c1; have l4 := itoa_len d0 d1; have l5 := itoa_len e0 e1; have l6 := itoa_len f0 f1
    have e32 : (⟨#[32]⟩ : ByteArray) = toBA [32] := rfl
    rw [e32]
    refine bnd (f27_eq a0 a1) (bnd (cat_eq (by simp; omega)) ?_)
    refine bnd (f27_eq b0 b1) (bnd (cat_eq (by simp; omega)) (bnd (cat_eq (by simp; omega)) ?_))
    refine bnd (f27_eq c0 c1) (bnd (cat_eq (by simp; omega)) (bnd (cat_eq (by simp; omega)) ?_))
    refine bnd (f27_eq d0 d1) (bnd (cat_eq (by simp; omega)) (bnd (cat_eq (by simp; omega)) ?_))
    refine bnd (f27_eq e0 e1) (bnd (cat_eq (by simp; omega)) (bnd (cat_eq (by simp; omega)) ?_))
    refine bnd (f27_eq f0 f1) (bnd (cat_eq (by simp; omega)) ?_)
    congr 2
    unfold prL
    simp
/-! ### how they are read -/
def atR (w : List UInt8) : Int × ErrV := match Lib.atoiAll w with | .ok v => (v, ⟨false⟩) | .range => (Lib.atoiSat w, ⟨true⟩) | _ => (0, ⟨true⟩)
theorem f31_eq {w : ByteArray} (h : w.size ≤ 1000000) : M.f31 w = some (atR w.data.toList) := by unfold M.f31; rw [if_pos h]; rfl
def zT : S_api_Turn := (0, 0, 0, 0, 0, 0)
/-- Words, read into the places of a turn from the place i on. -/
def rd : S_api_Turn → Nat → List (List UInt8) → Option S_api_Turn
  | t, _, [] => some t
  | t, i, w :: ws => if ((atR w).2.bad || decide (6 ≤ (i : Int))) = true then none else (M.setP t i (atR w).1).bind fun z => rd z (i + 1) ws
def fin (o : Option S_api_Turn) (l : List UInt8) : S_api_Turn × Int := match o with
  | none => (zT, 3)
  | some t => if okT t = true ∧ prL t = l then (t, 0) else (zT, 3)
theorem print_test (t : S_api_Turn) (s : ByteArray) : (if (((prR t).2 != 0) || ((prR t).1 != s)) = true then some (zT, (3 : Int)) else some (t, 0)) = some (fin (some t) s.data.toList) := by
  by_cases h : okT t = true
  · have e : prR t = (toBA (prL t), 0) := if_pos h
    rw [e]
    by_cases hs : prL t = s.data.toList
    · have : toBA (prL t) = s := by rw [hs]; exact toBA_of s
      have f : fin (some t) s.data.toList = (t, 0) := if_pos ⟨h, hs⟩
      rw [f, if_neg (by simp [this])]
    · have : ¬ toBA (prL t) = s := fun e => hs (by rw [← e]; rfl)
      have f : fin (some t) s.data.toList = (zT, 3) := if_neg fun q => hs q.2
      rw [f, if_pos (by simp [this])]
  · have e : prR t = (toBA [], 1) := if_neg h
    have f : fin (some t) s.data.toList = (zT, 3) := if_neg fun q => h q.1
    rw [e, f, if_pos (by simp)]
theorem wsp_len (l : List UInt8) : (wsp l).length ≤ l.length + 1 ∧ ∀ w ∈ wsp l, w.length ≤ l.length := by
  induction l with
  | nil => simp [wsp]
  | cons c r ih =>
    by_cases hc : c = 32
    · subst hc
      rw [wsp_blank]
      refine ⟨by simp; omega, fun w hw => ?_⟩
      rcases List.mem_cons.1 hw with rfl | hw
      · simp
      · have := ih.2 w hw; simp; omega
    · obtain ⟨v, vs, h⟩ := wsp_out r
      rw [wsp_cons hc h]
      rw [h] at ih
      refine ⟨by simpa using Nat.le_succ_of_le ih.1, fun w hw => ?_⟩
      rcases List.mem_cons.1 hw with rfl | hw
      · have := ih.2 v (by simp); simpa using this
      · have := ih.2 w (by simp [hw]); simp; omega
theorem setP_some (t : S_api_Turn) {i : Nat} (h : i < 6) (n : Int) : ∃ z, M.setP t i n = some z := by
  unfold M.setP
  rw [if_pos (by omega)]
  have e : ((i : Int)).toNat = i := by omega
  rw [e]
  match i, h with
  | 0, _ => exact ⟨_, rfl⟩
  | 1, _ => exact ⟨_, rfl⟩
  | 2, _ => exact ⟨_, rfl⟩
  | 3, _ => exact ⟨_, rfl⟩
  | 4, _ => exact ⟨_, rfl⟩
  | 5, _ => exact ⟨_, rfl⟩
theorem rd_loop (V : List ByteArray) (hV : ∀ w ∈ V, w.size ≤ 1000000) (f : Int → S_api_Turn → Option (Out S_api_Turn (S_api_Turn × Int))) (hf : f = fun i_5 s_7 =>
    (idx V i_5) >>= fun v_11 =>
    (M.f31 v_11) >>= fun v_13 =>
    (if (v_13.2.bad || decide (6 ≤ i_5)) = true then (
    some (.leave (((0, 0, 0, 0, 0, 0) : S_api_Turn), 3)))
    else (
    (M.setP s_7 i_5 v_13.1) >>= fun z_17 =>
    some (.again z_17)))) : ∀ (k j : Nat) (s : S_api_Turn), j + k = V.length →
    forFrom f k (j : Int) s = some (match rd s j ((V.drop j).map (·.data.toList)) with | some t => .again t | none => .leave (zT, 3)) := by
  intro k
  induction k with
  | zero =>
    intro j s hj
    rw [List.drop_of_length_le (by omega)]
    rfl
  | succ k ih =>
    intro j s hj
    have hlt : j < V.length := by omega
    have hi : idx V (j : Int) = some V[j] := by rw [idx_nat]; exact List.getElem?_eq_getElem hlt
    have ha := f31_eq (hV V[j] (List.getElem_mem hlt))
    rw [List.drop_eq_getElem_cons hlt, List.map_cons, rd]
    have hs : f (j : Int) s = (if ((atR V[j].data.toList).2.bad || decide (6 ≤ (j : Int))) = true then some (.leave (zT, 3)) else (M.setP s j (atR V[j].data.toList).1).bind fun z => some (.again z)) := by
      subst hf
      show (idx V (j : Int)).bind _ = _
      rw [hi]
      show (M.f31 V[j]).bind _ = _
      rw [ha]
      rfl
    rw [forFrom, hs]
    by_cases hc : ((atR V[j].data.toList).2.bad || decide (6 ≤ (j : Int))) = true
    · rw [if_pos hc, if_pos hc]
    · rw [if_neg hc, if_neg hc]
      have h6 : j < 6 := by
        simp at hc
        omega
      obtain ⟨z, hz⟩ := setP_some s h6 (atR V[j].data.toList).1
      rw [hz]
      exact ih (j + 1) z (by omega)
theorem f7_eq (s : ByteArray) (hs : s.size ≤ 1000) : M.f7 s = some (fin (rd zT 0 (wsp s.data.toList)) s.data.toList) := by
  unfold M.f7
  have hsp := split_list s
  have hwl := wsp_len s.data.toList
  rw [← hsp, ← ba_size] at hwl
  refine bnd (show M.f30 s ⟨#[32]⟩ = some _ from by unfold M.f30; rw [if_pos ⟨rfl, by omega⟩]) ?_
  rw [← hsp]
  generalize Lib.splitB ⟨#[32]⟩ 0 (Lib.countB s ⟨#[32]⟩) s = ws at hwl ⊢
  have hw : ∀ w ∈ ws, w.size ≤ 1000000 := fun w hw => by
    have := hwl.2 w.data.toList (List.mem_map.2 ⟨w, hw, rfl⟩)
    rw [← ba_size] at this; omega
  have hl : ws.length ≤ 1001 := by
    have := hwl.1
    rw [List.length_map] at this; omega
  have hloop := rd_loop ws hw _ rfl ws.length 0 zT (by omega)
  rw [List.drop_zero] at hloop
  have n1 : ((ws.length : Int) - 0).toNat = ws.length := by omega
  refine bnd (show Wh.forM 0 (ws.length : Int) _ _ = some _ from by
    unfold Wh.forM
    rw [if_pos (by omega), n1]
    exact hloop) ?_
  cases rd zT 0 (ws.map (·.data.toList)) with
  | none => rfl
  | some t =>
    refine Eq.trans ?_ (print_test t s)
    exact bnd (f5_eq t) rfl
/-! ### how the specification reads -/
def rdS : List Int → Int → List UInt8 → Option (List Int)
  | P, n, [] => some (P ++ [n])
  | P, n, c :: r => if c = 32 then rdS (P ++ [n]) 0 r else if 48 ≤ c.toNat ∧ c.toNat ≤ 57 then rdS P (imin (10 * n + ((c.toNat : Int) - 48)) 33554432) r else none
theorem rdS_loop (s : ByteArray) (hs : s.size ≤ 1000) (f : Int × (List Int) → Option (Out (Int × (List Int)) ((List Int) ⊕ (S_api_Turn × Int)))) (hf : f = fun s_3 : Int × (List Int) =>
    (if (decide (s_3.1 < (s.size : Int))) = true then (
    (sidx s s_3.1) >>= fun v_8 =>
    (if (v_8 == (32 : UInt8)) = true then (
    (app s_3.2 ([0] : List Int)) >>= fun z_10 =>
    some (.again ((wr (s_3.1 + 1)), z_10)))
    else (
    (sidx s s_3.1) >>= fun v_13 =>
    (guardO (decide ((48 : UInt8) ≤ v_13)) (sidx s s_3.1)) >>= fun v_15 =>
    (if ((decide ((48 : UInt8) ≤ v_13)) && (decide (v_15 ≤ (57 : UInt8)))) = true then (
    (idx s_3.2 (wr ((s_3.2.length : Int) - 1))) >>= fun v_17 =>
    (sidx s s_3.1) >>= fun v_19 =>
    (idx s_3.2 (wr ((s_3.2.length : Int) - 1))) >>= fun v_21 =>
    (set1 s_3.2 (wr ((s_3.2.length : Int) - 1)) (imin (wr ((wr (10 * v_17)) + ((v_19 - (48 : UInt8)).toNat : Int))) 33554432)) >>= fun z_23 =>
    some (.again ((wr (s_3.1 + 1)), z_23)))
    else (
    some (.leave (.inr (((0, 0, 0, 0, 0, 0) : S_api_Turn), 3))))))))
    else (
    some (.leave (.inl s_3.2))))) : ∀ (k j fuel : Nat) (P : List Int) (n : Int), j + k = s.size → k < fuel → P.length ≤ j → 0 ≤ n → n ≤ 33554432 →
    loopM f fuel ((j : Int), P ++ [n]) = some (match rdS P n (s.data.toList.drop j) with | some L => .inl L | none => .inr (zT, 3)) := by
  have hsz := ba_size s
  intro k
  induction k with
  | zero =>
    intro j fuel P n hj hfu hP h0 h1
    obtain ⟨fuel, rfl⟩ : ∃ q, fuel = q + 1 := ⟨fuel - 1, by omega⟩
    have hn : ¬ ((j : Int) < (s.size : Int)) := by omega
    rw [List.drop_of_length_le (by omega), rdS]
    subst hf
    simp [Wh.loopM, hn]
  | succ k ih =>
    intro j fuel P n hj hfu hP h0 h1
    obtain ⟨fuel, rfl⟩ : ∃ q, fuel = q + 1 := ⟨fuel - 1, by omega⟩
    have hlt : j < s.data.toList.length := by omega
    have hn : ((j : Int) < (s.size : Int)) := by omega
    have hsi : sidx s (j : Int) = some s.data.toList[j] := by
      unfold sidx
      rw [if_pos (by omega), ba_get]
      exact List.getElem?_eq_getElem hlt
    rw [List.drop_eq_getElem_cons hlt, rdS]
    have ih1 := ih (j + 1) fuel
    generalize s.data.toList[j] = c at *
    have l1 : ((48 : UInt8) ≤ c) ↔ 48 ≤ c.toNat := by rw [UInt8.le_iff_toNat_le]; rfl
    have l2 : (c ≤ (57 : UInt8)) ↔ c.toNat ≤ 57 := by rw [UInt8.le_iff_toNat_le]; rfl
    have e4 : wr ((j : Int) + 1) = ((j + 1 : Nat) : Int) := by rw [wr_id (by omega) (by omega)]; omega
    have hap : app (P ++ [n]) ([0] : List Int) = some (P ++ [n] ++ [0]) := by unfold app; rw [if_pos (by simp; omega)]
    have el : wr (((P ++ [n]).length : Int) - 1) = (P.length : Int) := by
      have : (P ++ [n]).length = P.length + 1 := by simp
      rw [this, wr_id (by omega) (by omega)]; omega
    have hid : idx (P ++ [n]) (P.length : Int) = some n := by rw [idx_nat]; simp
    have hse : ∀ v : Int, set1 (P ++ [n]) (P.length : Int) v = some (P ++ [v]) := fun v => by
      unfold set1
      rw [if_neg (by omega), if_pos (by simp)]
      have : ((P.length : Int)).toNat = P.length := by omega
      rw [this]; simp
    by_cases q0 : c = 32
    · rw [if_pos q0, ← ih1 (P ++ [n]) 0 (by omega) (by omega) (by simp; omega) (by omega) (by omega)]
      subst hf; subst q0
      rw [Wh.loopM]
      simp only [hn, decide_true, if_true, hsi, Option.bind_eq_bind, Option.bind_some, beq_self_eq_true, hap, e4]
    · rw [if_neg q0]
      have q0' : (c == (32 : UInt8)) = false := by simpa using q0
      by_cases q1 : 48 ≤ c.toNat
      · by_cases q2 : c.toNat ≤ 57
        · have e1 : wr (10 * n) = 10 * n := wr_id (by omega) (by omega)
          have e2 : ((c - 48).toNat : Int) = (c.toNat : Int) - 48 := by
            have : c.toNat < 256 := c.toNat_lt
            rw [UInt8.toNat_sub]
            have : (48 : UInt8).toNat = 48 := rfl
            omega
          have e3 : wr (10 * n + ((c.toNat : Int) - 48)) = 10 * n + ((c.toNat : Int) - 48) := wr_id (by omega) (by omega)
          have e5 : 0 ≤ imin (10 * n + ((c.toNat : Int) - 48)) 33554432 ∧ imin (10 * n + ((c.toNat : Int) - 48)) 33554432 ≤ 33554432 := by unfold imin; split <;> omega
          rw [if_pos ⟨q1, q2⟩, ← ih1 P _ (by omega) (by omega) (by omega) e5.1 e5.2]
          subst hf
          rw [Wh.loopM]
          simp only [hn, decide_true, if_true, hsi, Option.bind_eq_bind, Option.bind_some, q0', Bool.false_eq_true, if_false, l1, l2, q1, q2, guardO, Bool.and_self, el, hid, hse, e1, e2, e3, e4]
        · rw [if_neg (by omega)]
          subst hf
          rw [Wh.loopM]
          simp only [hn, decide_true, if_true, hsi, Option.bind_eq_bind, Option.bind_some, q0', Bool.false_eq_true, if_false, l1, l2, q1, q2, guardO, decide_false, Bool.and_false]
          rfl
      · rw [if_neg (by omega)]
        subst hf
        rw [Wh.loopM]
        simp only [hn, decide_true, if_true, hsi, Option.bind_eq_bind, Option.bind_some, q0', Bool.false_eq_true, if_false, l1, q1, guardO, decide_false, Bool.false_and]
        rfl
def o8 : List Int → Option S_api_Turn
  | [a, b, c, d, e, f] => some (a, b, c, d, e, f)
  | _ => none
def rdO (l : List UInt8) : Option S_api_Turn := if 40 < l.length then none else (rdS [] 0 l).bind o8
theorem f8_eq (s : ByteArray) : M.f8 1000 s = some (fin (rdO s.data.toList) s.data.toList) := by
  unfold M.f8 rdO
  have hsz := ba_size s
  by_cases h40 : 40 < s.size
  · rw [if_pos (decide_eq_true (by omega)), if_pos (by omega)]
    rfl
  · rw [if_neg (by simp; omega), if_neg (by omega)]
    refine bnd (rdS_loop s (by omega) _ rfl s.size 0 1000 [] 0 (by omega) (by omega) (by simp) (by omega) (by omega)) ?_
    rw [List.drop_zero]
    cases rdS [] 0 s.data.toList with
    | none => rfl
    | some L =>
      show (if ((L.length : Int) != 6) = true then _ else _) = some (fin (o8 L) _)
      match L with
      | [] => rfl
      | [a] => rfl
      | [a, b] => rfl
      | [a, b, c] => rfl
      | [a, b, c, d] => rfl
      | [a, b, c, d, e] => rfl
      | a :: b :: c :: d :: e :: f :: g :: r =>
        rw [if_pos (by simp; omega)]
        rfl
      | [a, b, c, d, e, f] =>
        rw [if_neg (by simp)]
        refine bnd (show idx [a, b, c, d, e, f] 0 = some a from rfl) (bnd (show idx [a, b, c, d, e, f] 1 = some b from rfl) (bnd (show idx [a, b, c, d, e, f] 2 = some c from rfl) (bnd (show idx [a, b, c, d, e, f] 3 = some d from rfl) (bnd (show idx [a, b, c, d, e, f] 4 = some e from rfl) (bnd (show idx [a, b, c, d, e, f] 5 = some f from rfl) ?_)))))
        refine Eq.trans ?_ (print_test (a, b, c, d, e, f) s)
        exact bnd (f6_eq _) rfl
/-! ### both -/
theorem atR_itoa {n : Int} (h0 : 0 ≤ n) (h1 : n ≤ 16777216) : atR (Lib.itoa n) = (n, ⟨false⟩) := by
  unfold atR
  rw [atoi_itoa h0 (by omega)]
theorem wsp_pr {t : S_api_Turn} (h : okT t = true) : wsp (prL t) = [Lib.itoa t.1, Lib.itoa t.2.1, Lib.itoa t.2.2.1, Lib.itoa t.2.2.2.1, Lib.itoa t.2.2.2.2.1, Lib.itoa t.2.2.2.2.2] := by
  obtain ⟨⟨a0, _⟩, ⟨b0, _⟩, ⟨c0, _⟩, ⟨d0, _⟩, ⟨e0, _⟩, ⟨f0, _⟩⟩ := okT_out h
  unfold prL
  rw [wsp_app (itoa_blank a0), wsp_app (itoa_blank b0), wsp_app (itoa_blank c0), wsp_app (itoa_blank d0), wsp_app (itoa_blank e0), wsp_word (itoa_blank f0)]
theorem fin7 {t : S_api_Turn} (h : okT t = true) : fin (rd zT 0 (wsp (prL t))) (prL t) = (t, 0) := by
  obtain ⟨⟨a0, a1⟩, ⟨b0, b1⟩, ⟨c0, c1⟩, ⟨d0, d1⟩, ⟨e0, e1⟩, ⟨f0, f1⟩⟩ := okT_out h
  have : rd zT 0 (wsp (prL t)) = some t := by
    rw [wsp_pr h]
    simp only [rd, atR_itoa a0 a1, atR_itoa b0 b1, atR_itoa c0 c1, atR_itoa d0 d1, atR_itoa e0 e1, atR_itoa f0 f1]
    rfl
  rw [this]
  exact if_pos ⟨h, rfl⟩
theorem rdS_app (b : List UInt8) : ∀ (a : List UInt8) (P : List Int) (n : Int), (∀ c ∈ a, c ≠ 32) → rdS P n (a ++ b) = (rdS P n a).bind fun L => match L.getLast? with | some m => rdS P m b | none => none
  | [], P, n, _ => by simp [rdS]
  | c :: r, P, n, h => by
    have hc : c ≠ 32 := h c (by simp)
    rw [List.cons_append, rdS, rdS, if_neg hc, if_neg hc]
    split
    · exact rdS_app b r P _ fun d hd => h d (by simp [hd])
    · rfl
theorem rdS_digits (P : List Int) (u : Nat) (h : u ≤ 33554432) : rdS P 0 (Lib.decDigits u) = some (P ++ [(u : Int)]) := by
  induction u using Nat.strongRecOn with
  | _ u ih =>
    have hone : ∀ (m : Int) (v : Nat), v < 10 → rdS P m [UInt8.ofNat (48 + v)] = some (P ++ [imin (10 * m + (v : Int)) 33554432]) := fun m v hv => by
      have hd := digit_ok hv
      have hb : UInt8.ofNat (48 + v) ≠ 32 := fun e => by
        rw [e] at hd
        have : (32 : UInt8).toNat = 32 := rfl
        omega
      rw [rdS, if_neg hb, hd, if_pos (by omega), rdS]
      congr 4; omega
    rw [Lib.decDigits]
    split
    · rename_i h1
      rw [hone 0 u h1]
      congr 3
      unfold imin; rw [if_neg (by omega)]; omega
    · rw [rdS_app _ _ _ _ (digits_blank _), ih (u / 10) (by omega) (by omega)]
      simp only [Option.bind_some, List.getLast?_append, List.getLast?_singleton, Option.some_or]
      rw [hone _ _ (by omega)]
      congr 3
      unfold imin; rw [if_neg (by omega)]; omega
theorem rdS_num (P : List Int) {n : Int} (h0 : 0 ≤ n) (h1 : n ≤ 16777216) (r : List UInt8) : rdS P 0 (Lib.itoa n ++ 32 :: r) = rdS (P ++ [n]) 0 r := by
  rw [rdS_app _ _ _ _ (itoa_blank h0), itoa_nat h0, rdS_digits P _ (by omega)]
  simp only [Option.bind_some, List.getLast?_append, List.getLast?_singleton, Option.some_or]
  rw [rdS, if_pos rfl]
  congr 2
  congr 1
  omega
theorem rdS_end (P : List Int) {n : Int} (h0 : 0 ≤ n) (h1 : n ≤ 16777216) : rdS P 0 (Lib.itoa n) = some (P ++ [n]) := by
  rw [itoa_nat h0, rdS_digits P _ (by omega)]
  congr 3
  omega
theorem fin8 {t : S_api_Turn} (h : okT t = true) : fin (rdO (prL t)) (prL t) = (t, 0) := by
  obtain ⟨⟨a0, a1⟩, ⟨b0, b1⟩, ⟨c0, c1⟩, ⟨d0, d1⟩, ⟨e0, e1⟩, ⟨f0, f1⟩⟩ := okT_out h
  obtain ⟨s1, s2, s3⟩ := okT_small h
  have : rdO (prL t) = some t := by
    unfold rdO
    have l1 := itoa_len1 a0 s1; have l2 := itoa_len1 b0 s2; have l3 := itoa_len c0 c1; have l4 := itoa_len1 d0 s3; have l5 := itoa_len e0 e1; have l6 := itoa_len f0 f1
    rw [if_neg (by unfold prL; simp; omega)]
    unfold prL
    rw [rdS_num _ a0 a1, rdS_num _ b0 b1, rdS_num _ c0 c1, rdS_num _ d0 d1, rdS_num _ e0 e1, rdS_end _ f0 f1]
    rfl
  rw [this]
  exact if_pos ⟨h, rfl⟩
theorem fin_none {l : List UInt8} (h : ¬ ∃ t, okT t = true ∧ prL t = l) (x : Option S_api_Turn) : fin x l = (zT, 3) := by
  cases x with
  | none => rfl
  | some t => exact if_neg fun q => h ⟨t, q⟩
theorem fin_same (l : List UInt8) : fin (rd zT 0 (wsp l)) l = fin (rdO l) l := by
  by_cases h : ∃ t, okT t = true ∧ prL t = l
  · obtain ⟨t, ht, rfl⟩ := h
    rw [fin7 ht, fin8 ht]
  · rw [fin_none h, fin_none h]
theorem law_WatchTexts (p0 : S_api_Turn) (p1 : ByteArray) : ∃ fuel, M.f3 fuel p0 p1 = some true := by
  refine ⟨1000, ?_⟩
  unfold M.f3
  refine bnd sane_ok ?_
  simp only [Bool.not_true, Bool.false_eq_true, if_false]
  by_cases hs : p1.size ≤ 1000
  · rw [if_neg (by simp; omega)]
    refine bnd (f5_eq p0) (bnd (f6_eq p0) (bnd (f7_eq p1 hs) (bnd (f8_eq p1) ?_)))
    rw [← fin_same, if_neg (by simp)]
    have hlast : (if ((fin (rd zT 0 (wsp p1.data.toList)) p1.data.toList).2 == 0) = true then (
        (M.f5 (fin (rd zT 0 (wsp p1.data.toList)) p1.data.toList).1) >>= fun v =>
        (if ((v.2 != 0) || (v.1 != p1)) = true then some false else some true)) else some true) = some true := by
      by_cases h : ∃ t, okT t = true ∧ prL t = p1.data.toList
      · obtain ⟨t, ht, he⟩ := h
        rw [← he, fin7 ht, if_pos (by simp)]
        refine bnd (f5_eq t) ?_
        unfold prR
        rw [if_pos ht, he, toBA_of, if_neg (by simp)]
      · rw [fin_none h]; rfl
    unfold prR
    by_cases h : okT p0 = true
    · simp only [h, if_true]
      rw [if_pos (by simp)]
      have l : (toBA (prL p0)).size ≤ 1000 := by
        obtain ⟨⟨a0, a1⟩, ⟨b0, b1⟩, ⟨c0, c1⟩, ⟨d0, d1⟩, ⟨e0, e1⟩, ⟨f0, f1⟩⟩ := okT_out h
        have l1 := itoa_len a0 a1; have l2 := itoa_len b0 b1; have l3 := itoa_len c0 c1; have l4 := itoa_len d0 d1; have l5 := itoa_len e0 e1; have l6 := itoa_len f0 f1
        rw [ba_size, toBA_list]
        unfold prL; simp; omega
      refine bnd (f7_eq _ l) ?_
      rw [toBA_list, fin7 h, if_neg (by simp)]
      exact hlast
    · simp only [h, if_false]
      rw [if_neg (by simp)]
      exact hlast
  · rw [if_pos (by simp; omega)]
end Go.Proofs.YtnnhmgcigoiceaaGreatDoor
