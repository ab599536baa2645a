/-
  What is proved: for every input there is a fuel with which the model of KeeperDistances returns true.
-/
import Derived.Test.YtjlagmcdoobimaaGreatKeepK
import Derived.KernelRfl
namespace Go.Proofs.YtjlagmcdoobimaaGreat
open Go Go.Proofs.YtjlagmcdoobimaaGreat.Wh
set_option maxRecDepth 100000

theorem sane_ok : M.f4 1000 = some true := by kernel_rfl
theorem contains_eq (l : List Int) (x : Int) (hl : l.length ≤ 4096) : M.f10 l x = some (l.any fun y => x == y) := by
  unfold M.f10 M.f36
  refine bnd (y := idxF (fun y => x == y) l) (bnd (forM_idx l (fun y => x == y) (by omega) fun j y hy => ?_) ?_) ?_
  · rw [idx_nat, hy]
    simp only [Option.bind_eq_bind, Option.bind_some]
    split <;> rfl
  · unfold idxF
    cases l.findIdx? (fun y => x == y) <;> rfl
  · rw [idxF_any]
theorem any_cst {l : List Nat} {k : Nat} : ((cst l).any fun y => (k : Int) == y) = decide (k ∈ l) := by
  apply Bool.eq_iff_iff.2
  unfold cst
  simp only [List.any_map, List.any_eq_true, Function.comp, beq_iff_eq, decide_eq_true_eq]
  constructor
  · rintro ⟨y, hy, e⟩
    have : k = y := by omega
    subst this; exact hy
  · intro h; exact ⟨k, h, rfl⟩
theorem rows_eq {n : Nat} (hn : n ≤ 900) (F : Nat → Nat → Int) (kn of : List S_api_Offer) : M.f7 (mat n F) (fun x0 => M.f8 x0 ((n : Int), kn, of)) = some false := by
  unfold M.f7 M.f35
  have hl : (mat n F).length = n := by simp [mat]
  rw [hl]
  obtain ⟨o, e1, e2⟩ := forM_inv (N := n) (s := ()) (f := fun i_1 (s_3 : Unit) => (idx (mat n F) i_1) >>= fun v_7 => (M.f8 v_7 ((n : Int), kn, of)) >>= fun v_9 => (if v_9 = true then (some (.leave i_1)) else (some (.again ()))))
    (fun _ _ => True) (fun _ => False) (by omega) trivial fun j s hj _ => by
      refine ⟨.again (), ?_, trivial⟩
      refine bnd (idx_mat hj) (bnd rfl ?_)
      rw [if_neg (by simp)]
  refine bnd (y := -1) (bnd e1 ?_) rfl
  cases o with
  | again s => rfl
  | leave r => exact e2.elim
theorem gT {α : Type} [Inhabited α] {g : Bool} {x : Option α} {v : α} (hg : g = true) (h : x = some v) : guardO g x = some v := by subst hg; exact h
theorem gF {α : Type} [Inhabited α] {g : Bool} {x : Option α} (hg : g = false) : guardO g x = some default := by subst hg; rfl
/-- One more in a list of offers. -/
theorem sort_more {k s i : Nat} (hi : i < k) (hn : s.testBit i = false) : ((cst (sel k s) ++ [(i : Int)]).mergeSort fun x y => decide (x ≤ y)) = cst (sel k (s ||| 2 ^ i)) := by
  have hb : ∀ j, (s ||| 2 ^ i).testBit j = (s.testBit j || decide (j = i)) := fun j => by
    rw [Nat.testBit_or, Nat.testBit_two_pow]
    congr 1
    exact decide_eq_decide.2 eq_comm
  have hperm : (sel k s ++ [i]).Perm (sel k (s ||| 2 ^ i)) := by
    refine (List.perm_ext_iff_of_nodup ?_ (sel_incr _ _).nodup).2 fun j => ?_
    · rw [List.nodup_append]
      refine ⟨(sel_incr _ _).nodup, by simp, fun a ha b hb' e => ?_⟩
      simp at hb'
      subst hb'; subst e
      have := (mem_sel.1 ha).2
      rw [hn] at this; cases this
    · rw [List.mem_append, mem_sel, mem_sel, hb]
      simp only [List.mem_singleton, Bool.or_eq_true, decide_eq_true_eq]
      constructor
      · rintro (⟨h1, h2⟩ | rfl)
        · exact ⟨h1, .inl h2⟩
        · exact ⟨hi, .inr rfl⟩
      · rintro ⟨h1, h2 | h2⟩
        · exact .inl ⟨h1, h2⟩
        · exact .inr h2
  have hp2 : (cst (sel k s) ++ [(i : Int)]).Perm (cst (sel k (s ||| 2 ^ i))) := by
    have := hperm.map fun (j : Nat) => (j : Int)
    rw [List.map_append] at this
    exact this
  refine List.Perm.eq_of_pairwise (le := fun a b : Int => a ≤ b) (fun a b _ _ h1 h2 => Int.le_antisymm h1 h2) ?_ ?_ ((List.mergeSort_perm _ _).trans hp2)
  · exact (List.pairwise_mergeSort (le := fun x y : Int => decide (x ≤ y)) (fun a b c h1 h2 => by simp at *; omega) (fun a b => by simp; omega) _).imp (fun h => by simpa using h)
  · unfold cst
    rw [List.pairwise_map]
    exact (sel_incr _ _).imp (fun h => by omega)
theorem more_lt {k s i : Nat} (hs : s < 2 ^ k) (hi : i < k) : s ||| 2 ^ i < 2 ^ k := Nat.or_lt_two_pow hs (Nat.pow_lt_pow_right (by decide) hi)
theorem sub_more (s i : Nat) : Sub s (s ||| 2 ^ i) := fun j h => by rw [Nat.testBit_or, h]; rfl
theorem law_KeeperDistances (p0 : S_api_Market) (p1 : List Int) (p2 p3 p4 p5 : Int) : ∃ fuel, M.f3 fuel p0 p1 p2 p3 p4 p5 = some true := by
  refine ⟨1000, ?_⟩
  unfold M.f3
  refine bnd sane_ok ?_
  simp only [Bool.not_true, Bool.false_eq_true, if_false]
  refine bnd (f5_eq p0 p1 [p2, p3, p4] (by simp)) ?_
  cases hask : askB p0 p1 [p2, p3, p4] with
  | false => rfl
  | true =>
    simp only [Bool.not_true, Bool.false_eq_true, if_false]
    have hcqs : codeQ p0 p1 [] [] = 0 ∧ codeQ p0 p1 [p2, p3] [] = 0 := by
      unfold askB at hask
      simp only [Bool.and_eq_true] at hask
      refine ⟨codeQ_zero hask.1.1.2 hask.1.2 rfl rfl, codeQ_zero hask.1.1.2 hask.1.2 ?_ rfl⟩
      have := hask.2
      simp only [List.all_cons, List.all_nil, Bool.and_true, Bool.and_eq_true] at this ⊢
      exact ⟨this.1, this.2.1⟩
    obtain ⟨n, kn, of, s, rfl, hm, hv, hs, rfl, hcl⟩ := ask_cases hask
    have hcl' := hcl
    simp only [List.all_cons, List.all_nil, Bool.and_true, Bool.and_eq_true] at hcl'
    obtain ⟨a, rfl, ha⟩ := clock_nat hcl'.1
    obtain ⟨b, rfl, hb⟩ := clock_nat hcl'.2.1
    obtain ⟨c, rfl, hc⟩ := clock_nat hcl'.2.2
    have h6 := hm.lo; have h8 := hm.n8
    have h7 := sel_len of.length s
    have hml : (mat n (fun a b => wdl (WdS n kn of s a b))).length = n := by simp [mat]
    refine bnd (hm.f6 hs hcqs.1) ?_
    simp only [hml]
    refine bnd (y := false) (gT (by simp) (rows_eq (by omega) _ _ _)) ?_
    rw [if_neg (by simp)]
    refine bnd (hm.f9 hs ha hb hcqs.2) ?_
    have hrow : ∀ x, x < n → idx (mat n (fun a b => wdl (WdS n kn of s a b))) (x : Int) = some ((List.range n).map fun y => wdl (WdS n kn of s x y)) := fun x hx => idx_mat hx
    have hel : ∀ x y, y < n → idx ((List.range n).map fun y => wdl (WdS n kn of s x y)) (y : Int) = some (wdl (WdS n kn of s x y)) := fun x y hy => idx_row hy
    have hab := hm.range s ha hb
    have hba := hm.sym s ha hb
    have haa := (hm.cl s).zero a ha
    have hbc := hm.range s hb hc
    have hac := hm.range s ha hc
    have htri := (hm.cl s).tri a b c ha hb hc
    generalize hD : WdS n kn of s = D at *
    have e1 : (widthR (D a b)).2.2 = 0 := by unfold widthR; split <;> rfl
    have e2 : (widthR (D a b)).2.1 = decide (0 ≤ wdl (D a b)) := by
      unfold widthR wdl; split
      · rfl
      · exact (decide_eq_true (by omega)).symm
    have e3 : (widthR (D a b)).2.1 = true → (widthR (D a b)).1 = wdl (D a b) := by
      unfold widthR wdl; split <;> simp
    generalize hW : widthR (D a b) = W at *
    obtain ⟨wn, wi, we⟩ := W
    simp only at e1 e2 e3
    subst e1
    have z0 : wdl (D a a) = 0 := by rw [haa]; rfl
    refine bnd (gT (by simp) (hrow a ha)) (bnd (gT (by simp) (hel a b hb)) ?_)
    obtain ⟨va, hva1, hva2⟩ : ∃ v, guardO ((!(((0 : Int) != 0) || (wi != (decide (0 ≤ wdl (D a b)))))) && wi) (idx (mat n (fun a b => wdl (D a b))) (a : Int)) = some v ∧ (wi = true → v = (List.range n).map fun y => wdl (D a y)) := by
      cases wi with
      | true => exact ⟨_, gT (by rw [← e2]; rfl) (hrow a ha), fun _ => rfl⟩
      | false => exact ⟨_, gF (by simp), fun h => by cases h⟩
    refine bnd hva1 ?_
    obtain ⟨vb, hvb1, hvb2⟩ : ∃ v, guardO ((!(((0 : Int) != 0) || (wi != (decide (0 ≤ wdl (D a b)))))) && wi) (idx va (b : Int)) = some v ∧ (wi = true → v = wdl (D a b)) := by
      cases wi with
      | true => exact ⟨_, gT (by rw [← e2]; rfl) (by rw [hva2 rfl]; exact hel a b hb), fun _ => rfl⟩
      | false => exact ⟨_, gF (by simp), fun h => by cases h⟩
    refine bnd hvb1 ?_
    have g1 : ((((0 : Int) != 0) || (wi != (decide (0 ≤ wdl (D a b))))) || (wi && (wn != vb))) = false := by
      rw [← e2]
      cases wi with
      | true => rw [hvb2 rfl, ← e3 rfl]; simp
      | false => simp
    simp only [g1, Bool.not_false, Bool.false_or]
    refine bnd (gT rfl (hrow a ha)) (bnd (gT rfl (hel a b hb)) (bnd (gT rfl (hrow b hb)) (bnd (gT rfl (hel b a ha)) ?_)))
    have g2 : (wdl (D a b) != wdl (D b a)) = false := by rw [hba]; simp
    simp only [g2, Bool.not_false]
    refine bnd (gT rfl (hrow a ha)) (bnd (gT rfl (hel a a ha)) ?_)
    simp only [z0]
    have g3 : ((0 : Int) != 0) = false := rfl
    simp only [g3]
    refine bnd (gT rfl (hrow a ha)) (bnd (gT rfl (hel a b hb)) ?_)
    obtain ⟨vc, hvc1, hvc2⟩ : ∃ v, guardO (decide (0 ≤ wdl (D a b))) (idx (mat n (fun a b => wdl (D a b))) (b : Int)) = some v ∧ (decide (0 ≤ wdl (D a b)) = true → v = (List.range n).map fun y => wdl (D b y)) := by
      cases decide (0 ≤ wdl (D a b)) with
      | true => exact ⟨_, gT rfl (hrow b hb), fun _ => rfl⟩
      | false => exact ⟨_, gF rfl, fun h => by cases h⟩
    refine bnd hvc1 ?_
    obtain ⟨vd, hvd1, hvd2⟩ : ∃ v, guardO (decide (0 ≤ wdl (D a b))) (idx vc (c : Int)) = some v ∧ (decide (0 ≤ wdl (D a b)) = true → v = wdl (D b c)) := by
      cases hq : decide (0 ≤ wdl (D a b)) with
      | true => exact ⟨_, gT rfl (by rw [hvc2 hq]; exact hel b c hc), fun _ => rfl⟩
      | false => exact ⟨_, gF rfl, fun h => by cases h⟩
    refine bnd hvd1 ?_
    have hdef : ∀ (G : Bool) (x y : Nat), x < n → y < n → ∃ v, (guardO G (idx (mat n (fun a b => wdl (D a b))) (x : Int))) = some v ∧ (∃ u, guardO G (idx v (y : Int)) = some u ∧ (G = true → u = wdl (D x y))) := fun G x y hx hy => by
      cases G with
      | true => exact ⟨_, hrow x hx, _, hel x y hy, fun _ => rfl⟩
      | false => exact ⟨_, rfl, _, rfl, fun h => by cases h⟩
    obtain ⟨r1, q1, u1, t1, f1⟩ := hdef ((decide (0 ≤ wdl (D a b))) && (decide (0 ≤ vd))) a c ha hc
    refine bnd q1 (bnd t1 ?_)
    obtain ⟨r2, q2, u2, t2, f2⟩ := hdef (((decide (0 ≤ wdl (D a b))) && (decide (0 ≤ vd))) && (!(decide (u1 < 0)))) a c ha hc
    refine bnd q2 (bnd t2 ?_)
    obtain ⟨r3, q3, u3, t3, f3⟩ := hdef (((decide (0 ≤ wdl (D a b))) && (decide (0 ≤ vd))) && (!(decide (u1 < 0)))) a b ha hb
    refine bnd q3 (bnd t3 ?_)
    obtain ⟨r4, q4, u4, t4, f4⟩ := hdef (((decide (0 ≤ wdl (D a b))) && (decide (0 ≤ vd))) && (!(decide (u1 < 0)))) b c hb hc
    refine bnd q4 (bnd t4 ?_)
    have g4 : (((decide (0 ≤ wdl (D a b))) && (decide (0 ≤ vd))) && ((decide (u1 < 0)) || (decide ((wr (u3 + u4)) < u2)))) = false := by
      rw [Bool.eq_false_iff]
      intro hcon
      simp only [Bool.and_eq_true, Bool.or_eq_true, decide_eq_true_eq] at hcon
      obtain ⟨⟨k1, k2⟩, k3⟩ := hcon
      have k1' : decide (0 ≤ wdl (D a b)) = true := decide_eq_true k1
      have hvd := hvd2 k1'
      subst hvd
      have k2' : decide (0 ≤ wdl (D b c)) = true := decide_eq_true k2
      have e5 := f1 (by rw [k1', k2']; rfl)
      have hA : D a b ≤ 7340032 := by unfold wdl at k1; split at k1 <;> omega
      have hB : D b c ≤ 7340032 := by unfold wdl at k2; split at k2 <;> omega
      have hC : D a c ≤ 7340032 := by omega
      have wA : wdl (D a b) = D a b := by unfold wdl; rw [if_neg (by omega)]
      have wB : wdl (D b c) = D b c := by unfold wdl; rw [if_neg (by omega)]
      have wC : wdl (D a c) = D a c := by unfold wdl; rw [if_neg (by omega)]
      have hu : decide (u1 < 0) = false := decide_eq_false (by rw [e5, wC]; omega)
      rw [k1', k2', hu] at f2 f3 f4
      have e6 := f2 rfl; have e7 := f3 rfl; have e8 := f4 rfl
      rw [e6, e7, e8, wA, wB, wC, wr_id (by omega) (by omega)] at k3
      rw [e5, wC] at k3
      omega
    rw [if_neg (by rw [g4]; simp)]
    -- the offers that are bought
    have hoff : ∀ (j i : Nat) (o : S_api_Offer), (sel of.length s)[j]? = some i → of[i]? = some o → ∃ x y : Nat, x < n ∧ y < n ∧ o.1 = (x : Int) ∧ o.2.1 = (y : Int) ∧ 0 ≤ wdl (D x y) ∧ wdl (D x y) ≤ o.2.2.2 := fun j i o hi ho => by
      have hok := hm.o o (List.mem_of_getElem? ho)
      unfold okB at hok
      simp at hok
      refine ⟨o.1.toNat, o.2.1.toNat, by omega, by omega, by omega, by omega, ?_⟩
      have hx : o.1.toNat < n := by omega
      have hy : o.2.1.toNat < n := by omega
      have h1 := (hm.cl s).le _ _ hx hy
      have hmem : o ∈ csS kn of s := mem_csS.2 (.inr ⟨i, ho, (mem_sel.1 (List.mem_of_getElem? hi)).2⟩)
      have h2 := (hm.st s).le o hmem o.1.toNat o.2.1.toNat (.inl ⟨by omega, by omega⟩)
      have h3 := hm.range s hx hy
      rw [hD] at h1 h3
      have hfar : D o.1.toNat o.2.1.toNat ≤ 1048576 := by omega
      have w : wdl (D o.1.toNat o.2.1.toNat) = D o.1.toNat o.2.1.toNat := by unfold wdl; rw [if_neg (by omega)]
      rw [w]; omega
    refine bnd (y := .again ()) ?_ ?_
    · have := forM_all (ρ := Bool) (cst (sel of.length s)) (by rw [cst_length]; omega) (fun _ => true) false (fun i_55 _ =>
        (idx (cst (sel of.length s)) i_55) >>= fun v_61 =>
        (idx of v_61) >>= fun v_63 =>
        (idx (mat n (fun a b => wdl (D a b))) v_63.1) >>= fun v_65 =>
        (idx v_65 v_63.2.1) >>= fun v_67 =>
        (guardO (!(decide (v_67 < 0))) (idx (mat n (fun a b => wdl (D a b))) v_63.1)) >>= fun v_69 =>
        (guardO (!(decide (v_67 < 0))) (idx v_69 v_63.2.1)) >>= fun v_71 =>
        (if ((decide (v_67 < 0)) || (decide (v_63.2.2.2 < v_71))) = true then (
        some (.leave false))
        else (
        some (.again ())))) fun j x hx => by
          unfold cst at hx
          rw [List.getElem?_map] at hx
          cases hi : (sel of.length s)[j]? with
          | none => rw [hi] at hx; cases hx
          | some i =>
            rw [hi] at hx
            cases hx
            have hil := sel_lt (List.mem_of_getElem? hi)
            obtain ⟨o, ho⟩ : ∃ o, of[i]? = some o := ⟨_, List.getElem?_eq_getElem hil⟩
            obtain ⟨x, y, hx, hy, hox, hoy, w0, w1⟩ := hoff j i o hi ho
            refine bnd (cst_get hi) (bnd (by rw [idx_nat]; exact ho) ?_)
            rw [hox, hoy]
            refine bnd (hrow x hx) (bnd (hel x y hy) ?_)
            have hneg : decide (wdl (D x y) < 0) = false := decide_eq_false (by omega)
            rw [hneg]
            refine bnd (hrow x hx) (bnd (hel x y hy) ?_)
            have hw : decide (o.2.2.2 < wdl (D x y)) = false := decide_eq_false (by omega)
            rw [hw]; rfl
      rw [if_pos (by simp)] at this
      exact this
    simp only [Out.elim]
    by_cases hin : 0 ≤ p5 ∧ p5 < (of.length : Int)
    · obtain ⟨i, rfl⟩ : ∃ i : Nat, p5 = (i : Int) := ⟨p5.toNat, by omega⟩
      have hi : i < of.length := by omega
      have d1 : decide ((i : Int) < 0) = false := decide_eq_false (by omega)
      have d2 : decide ((of.length : Int) ≤ (i : Int)) = false := decide_eq_false (by omega)
      simp only [d1, d2, Bool.or_self, Bool.not_false, Bool.false_or]
      refine bnd (gT rfl (contains_eq _ _ (by rw [cst_length]; omega))) ?_
      rw [any_cst]
      cases hbit : s.testBit i with
      | true => rw [if_pos (by simpa using mem_sel.2 ⟨hi, hbit⟩)]
      | false =>
        rw [if_neg (by simp only [decide_eq_true_eq]; intro h; have := (mem_sel.1 h).2; rw [hbit] at this; cases this)]
        refine bnd (show M.f13 (cst (sel of.length s)) = some _ from by unfold M.f13; rw [if_pos (by rw [cst_length]; omega)]) ?_
        refine bnd (app_one (by rw [cst_length]; omega)) ?_
        refine bnd (show M.f12 _ = some _ from rfl) ?_
        refine bnd (show M.f11 ⟨cst (sel of.length s) ++ [(i : Int)]⟩ = some (cst (sel of.length (s ||| 2 ^ i))) from by
          unfold M.f11
          rw [if_pos (by simp only [List.length_append, cst_length, List.length_singleton]; omega), sort_more hi hbit]) ?_
        have hs2 := more_lt hs hi
        have hcq2 : codeQ ((n : Int), kn, of) (cst (sel of.length (s ||| 2 ^ i))) [(a : Int), (b : Int)] [] = 0 := by
          refine codeQ_zero hv (set_bought _ _) ?_ rfl
          simp only [List.all_cons, List.all_nil, Bool.and_true, Bool.and_eq_true]
          exact ⟨hcl'.1, hcl'.2.1⟩
        refine bnd (hm.f9 hs2 ha hb hcq2) ?_
        have hmo := hm.mono (sub_more s i) ha hb
        have hr2 := hm.range (s ||| 2 ^ i) ha hb
        rw [hD] at hmo
        have hz : (widthR (WdS n kn of (s ||| 2 ^ i) a b)).2.2 = 0 := by unfold widthR; split <;> rfl
        rw [hz]
        cases wi with
        | false => rfl
        | true =>
          have hA : D a b ≤ 7340032 := by
            have := e2.symm
            rw [decide_eq_true_eq] at this
            unfold wdl at this; split at this <;> omega
          have hn : wn = D a b := by rw [e3 rfl]; unfold wdl; rw [if_neg (by omega)]
          unfold widthR
          rw [if_neg (by omega), hn]
          simp [hmo]
    · have : (decide (p5 < 0) || decide ((of.length : Int) ≤ p5)) = true := by simp; omega
      simp only [this, Bool.not_true, Bool.true_or]
      rfl
end Go.Proofs.YtjlagmcdoobimaaGreat
