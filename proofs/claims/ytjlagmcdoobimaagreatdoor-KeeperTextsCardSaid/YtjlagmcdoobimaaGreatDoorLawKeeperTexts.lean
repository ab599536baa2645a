/-
  What is proved: for every input there is a fuel with which the model of KeeperTexts returns true.
-/
import Derived.Test.YtjlagmcdoobimaaGreatDoorModelC
import Derived.Test.YtjlagmcdoobimaaGreatDoorPlain
import Derived.Test.YtjlagmcdoobimaaGreatDoorTxt
import Derived.KernelRfl
namespace Go.Proofs.YtjlagmcdoobimaaGreatDoor
open Go Go.Proofs.YtjlagmcdoobimaaGreatDoor.Wh
set_option maxRecDepth 100000

theorem sane_ok : M.f4 1000 = some true := by kernel_rfl
/-! ### offers that can be printed -/
def okB (n : Int) (c : Int) (o : S_api_Offer) : Bool := decide (0 ≤ o.1) && decide (o.1 < n) && decide (0 ≤ o.2.1) && decide (o.2.1 < n) && (o.1 != o.2.1) && decide (0 ≤ o.2.2.2) && decide (o.2.2.2 ≤ 1048576) && decide (0 ≤ o.2.2.1) && decide (o.2.2.1 ≤ c)
theorem f22_eq (o : S_api_Offer) (n c : Int) : M.f22 o n c = some (okB n c o) := rfl
theorem f51_eq (x a b : Int) : M.f51 x a b = some (decide (a ≤ x) && decide (x ≤ b)) := rfl
theorem guardO_bool (G v : Bool) : guardO G (some v) = some (G && v) := by cases G <;> rfl
theorem f25_eq (o : S_api_Offer) (n c : Int) (h1 : 2 ≤ n) (h2 : n ≤ 8) : M.f25 o n c = some (okB n c o) := by
  have hw : wr (n - 1) = n - 1 := wr_id (by omega) (by omega)
  have e : ∀ x : Int, decide (x ≤ n - 1) = decide (x < n) := fun x => by apply Bool.eq_iff_iff.2; simp; omega
  unfold M.f25 okB
  simp only [f51_eq, hw, e, Option.bind_eq_bind, Option.bind_some, guardO_bool]
  congr 1
  generalize decide (0 ≤ o.1) = a1, decide (o.1 < n) = a2, decide (0 ≤ o.2.1) = a3, decide (o.2.1 < n) = a4, (o.1 != o.2.1) = a5, decide (0 ≤ o.2.2.2) = a6, decide (o.2.2.2 ≤ 1048576) = a7, decide (0 ≤ o.2.2.1) = a8, decide (o.2.2.1 ≤ c) = a9
  revert a1 a2 a3 a4 a5 a6 a7 a8 a9
  decide
theorem okB_out {o : S_api_Offer} (h : okB 8 10000 o = true) : (0 ≤ o.1 ∧ o.1 ≤ 1048576) ∧ (0 ≤ o.2.1 ∧ o.2.1 ≤ 1048576) ∧ (0 ≤ o.2.2.1 ∧ o.2.2.1 ≤ 1048576) ∧ (0 ≤ o.2.2.2 ∧ o.2.2.2 ≤ 1048576) := by
  unfold okB at h
  simp at h
  omega
def toBA (l : List UInt8) : ByteArray := ⟨l.toArray⟩
theorem toBA_list (l : List UInt8) : (toBA l).data.toList = l := rfl
theorem toBA_of (s : ByteArray) : toBA s.data.toList = s := ba_ext rfl
/-- The text of an offer. -/
def prL (o : S_api_Offer) : List UInt8 := Lib.itoa o.1 ++ 32 :: (Lib.itoa o.2.1 ++ 32 :: (Lib.itoa o.2.2.1 ++ 32 :: Lib.itoa o.2.2.2))
theorem f23_eq {n : Int} (h0 : 0 ≤ n) (h1 : n ≤ 1048576) : M.f23 n = some (toBA (Lib.itoa n)) := by unfold M.f23; rw [if_pos (by omega)]; rfl
theorem itoa_len {n : Int} (h0 : 0 ≤ n) (h1 : n ≤ 1048576) : (Lib.itoa n).length ≤ 8 := by rw [itoa_nat h0]; exact digits_len _ (by omega)
theorem cat_eq {a b : List UInt8} (h : a.length + b.length ≤ 1000000) : cat (toBA a) (toBA b) = some (toBA (a ++ b)) := by
  unfold cat
  rw [if_pos (by rw [ba_size, ba_size, toBA_list, toBA_list]; exact h)]
  exact congrArg some (ba_ext (by rw [ByteArray.data_append]; simp [toBA]))
def prR (o : S_api_Offer) : ByteArray × Int := if okB 8 10000 o = true then (toBA (prL o), 0) else (toBA [], 1)
theorem f5_eq (o : S_api_Offer) : M.f5 o = some (prR o) := by
  unfold M.f5 prR
  refine bnd (f22_eq o 8 10000) ?_
  cases h : okB 8 10000 o with
  | false => rfl
  | true =>
    obtain ⟨⟨a0, a1⟩, ⟨b0, b1⟩, ⟨c0, c1⟩, ⟨d0, d1⟩⟩ := okB_out h
    rw [if_neg (by simp), if_pos rfl]
    refine bnd (y := [toBA (Lib.itoa o.1), toBA (Lib.itoa o.2.1), toBA (Lib.itoa o.2.2.1), toBA (Lib.itoa o.2.2.2)]) ?_ ?_
    · unfold Wh.forS
      rw [if_pos (by omega)]
      have n4 : ((4 : Int) - 0).toNat = 4 := rfl
      rw [n4]
      simp only [Wh.stepsFrom, idxA, idx]
      have e1 := f23_eq a0 a1; have e2 := f23_eq b0 b1; have e3 := f23_eq c0 c1; have e4 := f23_eq d0 d1
      simp [e1, e2, e3, e4, app]
    · have l1 := itoa_len a0 a1; have l2 := itoa_len b0 b1; have l3 := itoa_len c0 c1; have l4 := itoa_len d0 d1
      have hj : Lib.join ([toBA (Lib.itoa o.1), toBA (Lib.itoa o.2.1), toBA (Lib.itoa o.2.2.1), toBA (Lib.itoa o.2.2.2)].map (·.data.toList)) [32] = prL o := by
        simp [Lib.join, prL, toBA, List.intercalate]
      refine bnd (y := toBA (prL o)) ?_ rfl
      unfold M.f24
      rw [show (⟨#[32]⟩ : ByteArray).data.toList = [32] from rfl, hj, if_pos ⟨by simp, by simp, by unfold prL; simp; omega⟩]
      rfl
theorem f6_eq (o : S_api_Offer) : M.f6 o = some (prR o) := by
  unfold M.f6 prR
  refine bnd (f25_eq o 8 10000 (by omega) (by omega)) ?_
  cases h : okB 8 10000 o with
  | false => rfl
  | true =>
    obtain ⟨⟨a0, a1⟩, ⟨b0, b1⟩, ⟨c0, c1⟩, ⟨d0, d1⟩⟩ := okB_out h
    rw [if_neg (by simp), if_pos rfl]
    have l1 := itoa_len a0 a1; have l2 := itoa_len b0 b1; have l3 := itoa_len c0 c1; have l4 := itoa_len d0 d1
    have e32 : (⟨#[32]⟩ : ByteArray) = toBA [32] := rfl
    rw [e32]
    refine bnd (f23_eq a0 a1) (bnd (cat_eq (by simp; omega)) (bnd (f23_eq b0 b1) (bnd (cat_eq (by simp; omega)) (bnd (cat_eq (by simp; omega)) (bnd (f23_eq c0 c1) (bnd (cat_eq (by simp; omega)) (bnd (cat_eq (by simp; omega)) (bnd (f23_eq d0 d1) (bnd (cat_eq (by simp; omega)) ?_)))))))))
    congr 2
    unfold prL
    simp
/-! ### how they are read -/
def atR (w : List UInt8) : Int × ErrV := match Lib.atoiAll w with | .ok v => (v, ⟨false⟩) | .range => (Lib.atoiSat w, ⟨true⟩) | _ => (0, ⟨true⟩)
theorem f27_eq {w : ByteArray} (h : w.size ≤ 1000000) : M.f27 w = some (atR w.data.toList) := by unfold M.f27; rw [if_pos h]; rfl
def o7 : List (List UInt8) → Option S_api_Offer
  | [a, b, c, d] => if ((atR a).2.bad || (atR b).2.bad || (atR c).2.bad || (atR d).2.bad) = true then none else some ((atR a).1, (atR b).1, (atR c).1, (atR d).1)
  | _ => none
def fin (o : Option S_api_Offer) (l : List UInt8) : S_api_Offer × Int := match o with
  | none => ((0, 0, 0, 0), 3)
  | some o => if okB 8 10000 o = true ∧ prL o = l then (o, 0) else ((0, 0, 0, 0), 3)
theorem print_test (o : S_api_Offer) (s : ByteArray) (_z : S_api_Offer) : (if (((prR o).2 != 0) || ((prR o).1 != s)) = true then some (((0, 0, 0, 0) : S_api_Offer), (3 : Int)) else some (o, 0)) = some (fin (some o) s.data.toList) := by
  by_cases h : okB 8 10000 o = true
  · have e : prR o = (toBA (prL o), 0) := if_pos h
    rw [e]
    by_cases hs : prL o = s.data.toList
    · have : toBA (prL o) = s := by rw [hs]; exact toBA_of s
      have f : fin (some o) s.data.toList = (o, 0) := if_pos ⟨h, hs⟩
      rw [f, if_neg (by simp [this])]
    · have : ¬ toBA (prL o) = s := fun e => hs (by rw [← e]; rfl)
      have f : fin (some o) s.data.toList = ((0, 0, 0, 0), 3) := if_neg fun q => hs q.2
      rw [f, if_pos (by simp [this])]
  · have e : prR o = (toBA [], 1) := if_neg h
    have f : fin (some o) s.data.toList = ((0, 0, 0, 0), 3) := if_neg fun q => h q.1
    rw [e, f, if_pos (by simp)]
theorem wsp_len (l : List UInt8) : (wsp l).length ≤ l.length + 1 ∧ ∀ w ∈ wsp l, w.length ≤ l.length := by
  induction l with
  | nil => simp [wsp]
  | cons c r ih =>
    by_cases hc : c = 32
    · subst hc
      rw [wsp_blank]
      refine ⟨by simp; omega, fun w hw => ?_⟩
      rcases List.mem_cons.1 hw with rfl | hw
      · simp
      · have := ih.2 w hw; simp; omega
    · obtain ⟨v, vs, h⟩ := wsp_out r
      rw [wsp_cons hc h]
      rw [h] at ih
      refine ⟨by simpa using Nat.le_succ_of_le ih.1, fun w hw => ?_⟩
      rcases List.mem_cons.1 hw with rfl | hw
      · have := ih.2 v (by simp); simpa using this
      · have := ih.2 w (by simp [hw]); simp; omega
theorem f7_eq (s : ByteArray) (hs : s.size ≤ 1000) : M.f7 s = some (fin (o7 (wsp s.data.toList)) s.data.toList) := by
  unfold M.f7
  have hsp := split_list s
  have hwl := wsp_len s.data.toList
  rw [← hsp, ← ba_size] at hwl
  refine bnd (show M.f26 s ⟨#[32]⟩ = some _ from by unfold M.f26; rw [if_pos ⟨rfl, by omega⟩]) ?_
  rw [← hsp]
  generalize Lib.splitB ⟨#[32]⟩ 0 (Lib.countB s ⟨#[32]⟩) s = ws at hwl ⊢
  have hw : ∀ w ∈ ws, w.size ≤ 1000000 := fun w hw => by
    have := hwl.2 w.data.toList (List.mem_map.2 ⟨w, hw, rfl⟩)
    rw [← ba_size] at this; omega
  match ws, hw with
  | [], _ => rfl
  | [a], _ => rfl
  | [a, b], _ => rfl
  | [a, b, c], _ => rfl
  | a :: b :: c :: d :: e :: r, _ =>
    rw [if_pos (by simp; omega)]
    rfl
  | [a, b, c, d], hw =>
    rw [if_neg (by simp)]
    have ea := f27_eq (hw a (by simp)); have eb := f27_eq (hw b (by simp)); have ec := f27_eq (hw c (by simp)); have ed := f27_eq (hw d (by simp))
    simp only [List.map_cons, List.map_nil, o7]
    generalize atR a.data.toList = ra at *
    generalize atR b.data.toList = rb at *
    generalize atR c.data.toList = rc at *
    generalize atR d.data.toList = rd at *
    obtain ⟨na, ⟨ba⟩⟩ := ra
    obtain ⟨nb, ⟨bb⟩⟩ := rb
    obtain ⟨nc, ⟨bc⟩⟩ := rc
    obtain ⟨nd, ⟨bd⟩⟩ := rd
    have n4 : (((([a, b, c, d] : List ByteArray).length : Int)) - 0).toNat = 4 := rfl
    unfold Wh.forM
    rw [if_pos (by simp), n4]
    have i0 : idx [a, b, c, d] 0 = some a := rfl
    have i1 : idx [a, b, c, d] (0 + 1) = some b := rfl
    have i2 : idx [a, b, c, d] (0 + 1 + 1) = some c := rfl
    have i3 : idx [a, b, c, d] (0 + 1 + 1 + 1) = some d := rfl
    simp only [Wh.forFrom, i0, i1, i2, i3, ea, eb, ec, ed, Option.bind_eq_bind, Option.bind_some]
    cases ba with
    | true => rfl
    | false =>
      cases bb with
      | true => rfl
      | false =>
        cases bc with
        | true => rfl
        | false =>
          cases bd with
          | true => rfl
          | false =>
            refine Eq.trans ?_ (print_test (na, nb, nc, nd) s (na, nb, nc, nd))
            simp [idxA, setA, idx, Out.elim, f5_eq]
            rfl
/-! ### how the specification reads -/
def numO : Int → List UInt8 → Option Int
  | n, [] => some n
  | n, c :: r => if c.toNat < 48 ∨ 57 < c.toNat ∨ 10000000 < n then none else numO (10 * n + ((c.toNat : Int) - 48)) r
def numR (w : List UInt8) : Int := if w = [] then -1 else (numO 0 w).getD (-1)
theorem numO_app (c : UInt8) : ∀ (l : List UInt8) (n : Int), numO n (l ++ [c]) = (numO n l).bind fun m => numO m [c]
  | [], n => rfl
  | d :: r, n => by
    rw [List.cons_append, numO, numO]
    split
    · rfl
    · exact numO_app c r _
theorem numO_digits (u : Nat) (h : u ≤ 100000000) : numO 0 (Lib.decDigits u) = some (u : Int) := by
  induction u using Nat.strongRecOn with
  | _ u ih =>
    rw [Lib.decDigits]
    split
    · rename_i h1
      rw [numO, digit_ok h1, if_neg (by omega), numO]
      congr 1; omega
    · rw [numO_app, ih (u / 10) (by omega) (by omega)]
      have hd := digit_ok (u := u % 10) (by omega)
      simp only [Option.bind_some]
      rw [numO, hd, if_neg (by omega), numO]
      congr 1; omega
theorem numR_itoa {n : Int} (h0 : 0 ≤ n) (h1 : n ≤ 1048576) : numR (Lib.itoa n) = n := by
  unfold numR
  rw [if_neg (itoa_ne h0), itoa_nat h0, numO_digits _ (by omega)]
  simp; omega
theorem num_loop (w : List UInt8) (f : Int × Int → Option (Out (Int × Int) (Int ⊕ Int))) (hf : f = fun s_1 : Int × Int =>
    (if (decide (s_1.2 < ((toBA w).size : Int))) = true then (
    (sidx (toBA w) s_1.2) >>= fun v_5 =>
    (guardO (!(decide (v_5 < (48 : UInt8)))) (sidx (toBA w) s_1.2)) >>= fun v_7 =>
    (if (((decide (v_5 < (48 : UInt8))) || (decide ((57 : UInt8) < v_7))) || (decide (10000000 < s_1.1))) = true then (
    some (.leave (.inr (-1))))
    else (
    (sidx (toBA w) s_1.2) >>= fun v_9 =>
    some (.again ((wr ((wr (10 * s_1.1)) + ((v_9 - (48 : UInt8)).toNat : Int))), (wr (s_1.2 + 1)))))))
    else (
    some (.leave (.inl s_1.1))))) (hw : w.length ≤ 1000000) : ∀ (k j fuel : Nat) (n : Int), j + k = w.length → k < fuel → 0 ≤ n → n ≤ 1000000000 →
    loopM f fuel (n, (j : Int)) = some (match numO n (w.drop j) with | some m => .inl m | none => .inr (-1)) := by
  intro k
  induction k with
  | zero =>
    intro j fuel n hj hfu h0 h1
    obtain ⟨fuel, rfl⟩ : ∃ q, fuel = q + 1 := ⟨fuel - 1, by omega⟩
    have hn : ¬ ((j : Int) < ((toBA w).size : Int)) := by rw [ba_size, toBA_list]; omega
    rw [List.drop_of_length_le (by omega), numO]
    subst hf
    simp [Wh.loopM, hn]
  | succ k ih =>
    intro j fuel n hj hfu h0 h1
    obtain ⟨fuel, rfl⟩ : ∃ q, fuel = q + 1 := ⟨fuel - 1, by omega⟩
    have hlt : j < w.length := by omega
    have hn : ((j : Int) < ((toBA w).size : Int)) := by rw [ba_size, toBA_list]; omega
    have hs : sidx (toBA w) (j : Int) = some w[j] := by
      unfold sidx
      rw [if_pos (by omega), ba_get, toBA_list]
      exact List.getElem?_eq_getElem hlt
    rw [List.drop_eq_getElem_cons hlt, numO]
    have l1 : (w[j] < (48 : UInt8)) ↔ w[j].toNat < 48 := by rw [UInt8.lt_iff_toNat_lt]; rfl
    have l2 : ((57 : UInt8) < w[j]) ↔ 57 < w[j].toNat := by rw [UInt8.lt_iff_toNat_lt]; rfl
    have hih := ih (j + 1) fuel (10 * n + ((w[j].toNat : Int) - 48))
    generalize hc : w[j] = c at *
    by_cases q1 : c.toNat < 48
    · rw [if_pos (.inl q1)]
      subst hf
      simp [Wh.loopM, hn, hs, l1, q1, guardO]
    · by_cases q2 : 57 < c.toNat
      · rw [if_pos (.inr (.inl q2))]
        subst hf
        simp [Wh.loopM, hn, hs, l1, q1, l2, q2, guardO]
      · by_cases q3 : 10000000 < n
        · rw [if_pos (.inr (.inr q3))]
          subst hf
          simp [Wh.loopM, hn, hs, l1, q1, guardO, q3]
        · rw [if_neg (by omega), ← hih (by omega) (by omega) (by omega) (by omega)]
          have e1 : wr (10 * n) = 10 * n := wr_id (by omega) (by omega)
          have e2 : ((c - 48).toNat : Int) = (c.toNat : Int) - 48 := by
            have : c.toNat < 256 := c.toNat_lt
            rw [UInt8.toNat_sub]
            have : (48 : UInt8).toNat = 48 := rfl
            omega
          have e3 : wr (10 * n + ((c.toNat : Int) - 48)) = 10 * n + ((c.toNat : Int) - 48) := wr_id (by omega) (by omega)
          have e4 : wr ((j : Int) + 1) = ((j + 1 : Nat) : Int) := by rw [wr_id (by omega) (by omega)]; omega
          subst hf
          rw [Wh.loopM]
          simp only [hn, decide_true, if_true, hs, Option.bind_eq_bind, Option.bind_some, l1, q1, l2, q2, q3, decide_false, Bool.not_false, guardO, Bool.or_self, Bool.false_eq_true, if_false, e1, e2, e3, e4]
theorem f28_eq (w : List UInt8) (hw : w.length ≤ 900) : M.f28 1000 (toBA w) = some (numR w) := by
  unfold M.f28
  refine bnd (num_loop w _ rfl (by omega) w.length 0 1000 0 (by omega) (by omega) (by omega) (by omega)) ?_
  rw [List.drop_zero]
  unfold numR
  have he : (toBA w == (⟨#[]⟩ : ByteArray)) = decide (w = []) := by
    apply Bool.eq_iff_iff.2
    simp only [beq_iff_eq, decide_eq_true_eq]
    constructor
    · intro h; have := congrArg (fun s : ByteArray => s.data.toList) h; exact this
    · intro h; rw [h]; rfl
  by_cases h : w = []
  · subst h
    rfl
  · rw [if_neg h]
    cases numO 0 w with
    | none => rfl
    | some m => simp [sumE, he, h]
def o8 : List (List UInt8) → Option S_api_Offer
  | [a, b, c, d] => some (numR a, numR b, numR c, numR d)
  | _ => none
theorem set1_last {l : List ByteArray} {z : ByteArray} (h : l ≠ []) : set1 l ((l.length - 1 : Nat) : Int) z = some (l.set (l.length - 1) z) := by
  have : 0 < l.length := List.length_pos_iff.2 h
  unfold set1
  rw [if_neg (by omega), if_pos (by omega)]
  rfl
theorem f8_eq (s : ByteArray) (hs : s.size ≤ 800) : M.f8 1000 s = some (fin (o8 (wsp s.data.toList)) s.data.toList) := by
  unfold M.f8
  have hsz := ba_size s
  refine bnd (loopM_go (N := s.size) (fun j => ((j : Int), (wsp (s.data.toList.take j)).map toBA)) ((wsp s.data.toList).map toBA) rfl (by omega) (fun j hj => ?_) ?_) ?_
  · have hlt : j < s.data.toList.length := by omega
    have hsi : sidx s (j : Int) = some s.data.toList[j] := by
      unfold sidx
      rw [if_pos (by omega), ba_get]
      exact List.getElem?_eq_getElem hlt
    have e4 : wr ((j : Int) + 1) = ((j + 1 : Nat) : Int) := by rw [wr_id (by omega) (by omega)]; omega
    have htk : s.data.toList.take (j + 1) = s.data.toList.take j ++ [s.data.toList[j]] := by rw [List.take_add_one, List.getElem?_eq_getElem hlt]; rfl
    have hlen := wsp_len (s.data.toList.take j)
    have htl : (s.data.toList.take j).length = j := by rw [List.length_take]; omega
    rw [htl] at hlen
    have hne := wsp_ne (s.data.toList.take j)
    rw [if_pos (by simpa using hj)]
    refine bnd hsi ?_
    by_cases hc : s.data.toList[j] = 32
    · refine bnd (y := (wsp (s.data.toList.take (j + 1))).map toBA) ?_ (by rw [e4])
      rw [if_pos (by rw [hc]; rfl), htk, hc, wsp_snoc_blank]
      refine bnd (show app _ _ = some _ from by unfold app; rw [if_pos (by simp; omega)]) ?_
      rw [List.map_append]; rfl
    · refine bnd (y := (wsp (s.data.toList.take (j + 1))).map toBA) ?_ (by rw [e4])
      rw [if_neg (by simpa using hc), htk, wsp_snoc hc]
      generalize wsp (s.data.toList.take j) = ws at *
      have hpos : 0 < ws.length := List.length_pos_iff.2 hne
      obtain ⟨w, hw⟩ : ∃ w, ws[ws.length - 1]? = some w := ⟨_, List.getElem?_eq_getElem (by omega)⟩
      have hwl := hlen.2 w (List.mem_of_getElem? hw)
      have el : wr (((ws.map toBA).length : Int) - 1) = ((ws.length - 1 : Nat) : Int) := by rw [List.length_map, wr_id (by omega) (by omega)]; omega
      have hi : idx (ws.map toBA) ((ws.length - 1 : Nat) : Int) = some (toBA w) := by rw [idx_nat, List.getElem?_map, hw]; rfl
      have hsub : ssub s (j : Int) (((j + 1 : Nat) : Int)) = some (toBA [s.data.toList[j]]) := by
        unfold ssub
        rw [if_pos (by omega)]
        congr 1
        apply ba_ext
        rw [toBA_list]
        have e5 : ((j : Int)).toNat = j := by omega
        have e6 : (((j + 1 : Nat) : Int)).toNat = j + 1 := by omega
        rw [e5, e6]
        exact ba_one s j hlt
      rw [el]
      refine bnd hi ?_
      rw [e4]
      refine bnd hsub (bnd (cat_eq (by simp; omega)) (bnd hi ?_))
      refine bnd (show set1 (ws.map toBA) _ _ = some _ from by
        have := set1_last (l := ws.map toBA) (z := toBA (w ++ [s.data.toList[j]])) (by simpa using hne)
        rw [List.length_map] at this
        exact this) ?_
      rw [lastAdd_set _ hne hw, List.map_set]
  · rw [if_neg (by simp)]
    simp only
    rw [List.take_of_length_le (by omega)]
  · have hlen := wsp_len s.data.toList
    show (if ((((wsp s.data.toList).map toBA).length : Int) != 4) = true then _ else _) = _
    generalize wsp s.data.toList = ws at *
    match ws, hlen with
    | [], _ => rfl
    | [a], _ => rfl
    | [a, b], _ => rfl
    | [a, b, c], _ => rfl
    | a :: b :: c :: d :: e :: r, _ =>
      rw [if_pos (by simp; omega)]
      rfl
    | [a, b, c, d], hlen =>
      have ha := f28_eq a (by have := hlen.2 a (by simp); omega)
      have hb := f28_eq b (by have := hlen.2 b (by simp); omega)
      have hc := f28_eq c (by have := hlen.2 c (by simp); omega)
      have hd := f28_eq d (by have := hlen.2 d (by simp); omega)
      rw [if_neg (by simp)]
      refine bnd (show idx ([a, b, c, d].map toBA) 0 = some (toBA a) from rfl) (bnd ha (bnd (show idx ([a, b, c, d].map toBA) 1 = some (toBA b) from rfl) (bnd hb (bnd (show idx ([a, b, c, d].map toBA) 2 = some (toBA c) from rfl) (bnd hc (bnd (show idx ([a, b, c, d].map toBA) 3 = some (toBA d) from rfl) (bnd hd ?_)))))))
      refine bnd (f6_eq _) ?_
      exact print_test (numR a, numR b, numR c, numR d) s (numR a, numR b, numR c, numR d)
/-! ### both -/
theorem wsp_pr {o : S_api_Offer} (h : okB 8 10000 o = true) : wsp (prL o) = [Lib.itoa o.1, Lib.itoa o.2.1, Lib.itoa o.2.2.1, Lib.itoa o.2.2.2] := by
  obtain ⟨⟨a0, _⟩, ⟨b0, _⟩, ⟨c0, _⟩, ⟨d0, _⟩⟩ := okB_out h
  unfold prL
  rw [wsp_app (itoa_blank a0), wsp_app (itoa_blank b0), wsp_app (itoa_blank c0), wsp_word (itoa_blank d0)]
theorem atR_itoa {n : Int} (h0 : 0 ≤ n) (h1 : n ≤ 1048576) : atR (Lib.itoa n) = (n, ⟨false⟩) := by
  unfold atR
  rw [atoi_itoa h0 (by omega)]
theorem fin7 {o : S_api_Offer} (h : okB 8 10000 o = true) : fin (o7 (wsp (prL o))) (prL o) = (o, 0) := by
  obtain ⟨⟨a0, a1⟩, ⟨b0, b1⟩, ⟨c0, c1⟩, ⟨d0, d1⟩⟩ := okB_out h
  rw [wsp_pr h, o7]
  rw [atR_itoa a0 a1, atR_itoa b0 b1, atR_itoa c0 c1, atR_itoa d0 d1]
  simp only [Bool.or_self, Bool.false_eq_true, if_false]
  exact if_pos ⟨h, rfl⟩
theorem fin8 {o : S_api_Offer} (h : okB 8 10000 o = true) : fin (o8 (wsp (prL o))) (prL o) = (o, 0) := by
  obtain ⟨⟨a0, a1⟩, ⟨b0, b1⟩, ⟨c0, c1⟩, ⟨d0, d1⟩⟩ := okB_out h
  rw [wsp_pr h, o8]
  rw [numR_itoa a0 a1, numR_itoa b0 b1, numR_itoa c0 c1, numR_itoa d0 d1]
  exact if_pos ⟨h, rfl⟩
theorem fin_none {l : List UInt8} (h : ¬ ∃ o, okB 8 10000 o = true ∧ prL o = l) (x : Option S_api_Offer) : fin x l = ((0, 0, 0, 0), 3) := by
  cases x with
  | none => rfl
  | some o => exact if_neg fun q => h ⟨o, q⟩
theorem fin_same (l : List UInt8) : fin (o7 (wsp l)) l = fin (o8 (wsp l)) l := by
  by_cases h : ∃ o, okB 8 10000 o = true ∧ prL o = l
  · obtain ⟨o, ho, rfl⟩ := h
    rw [fin7 ho, fin8 ho]
  · rw [fin_none h, fin_none h]
theorem law_KeeperTexts (p0 : S_api_Offer) (p1 : ByteArray) : ∃ fuel, M.f3 fuel p0 p1 = some true := by
  refine ⟨1000, ?_⟩
  unfold M.f3
  refine bnd sane_ok ?_
  simp only [Bool.not_true, Bool.false_eq_true, if_false]
  by_cases hs : p1.size ≤ 200
  · rw [if_neg (by simp; omega)]
    refine bnd (f5_eq p0) (bnd (f6_eq p0) (bnd (f7_eq p1 (by omega)) (bnd (f8_eq p1 (by omega)) ?_)))
    rw [← fin_same]
    have hlast : ∃ v, M.f5 (fin (o7 (wsp p1.data.toList)) p1.data.toList).1 = some v ∧ (((fin (o7 (wsp p1.data.toList)) p1.data.toList).2 != 0) || ((v.2 == 0) && (v.1 == p1))) = true := by
      refine ⟨_, f5_eq _, ?_⟩
      by_cases h : ∃ o, okB 8 10000 o = true ∧ prL o = p1.data.toList
      · obtain ⟨o, ho, he⟩ := h
        rw [← he, fin7 ho]
        unfold prR
        rw [if_pos ho, he, toBA_of]
        simp
      · rw [fin_none h]; rfl
    obtain ⟨v, hv1, hv2⟩ := hlast
    rw [if_neg (by simp)]
    unfold prR
    by_cases h : okB 8 10000 p0 = true
    · simp only [h, if_true]
      rw [if_pos (by simp)]
      have l : (toBA (prL p0)).size ≤ 1000 := by
        obtain ⟨⟨a0, a1⟩, ⟨b0, b1⟩, ⟨c0, c1⟩, ⟨d0, d1⟩⟩ := okB_out h
        have l1 := itoa_len a0 a1; have l2 := itoa_len b0 b1; have l3 := itoa_len c0 c1; have l4 := itoa_len d0 d1
        rw [ba_size, toBA_list]
        unfold prL; simp; omega
      refine bnd (f7_eq _ l) ?_
      rw [toBA_list, fin7 h, if_neg (by simp)]
      refine bnd hv1 ?_
      rw [hv2]
    · simp only [h]
      rw [if_neg (by simp)]
      refine bnd hv1 ?_
      rw [hv2]
  · rw [if_pos (by simp; omega)]
end Go.Proofs.YtjlagmcdoobimaaGreatDoor
