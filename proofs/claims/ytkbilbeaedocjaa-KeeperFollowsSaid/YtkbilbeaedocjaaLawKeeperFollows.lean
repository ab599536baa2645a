/-
  What is proved: for every input there is a fuel with which the model of KeeperFollows returns true.
-/
import Derived.Test.YtkbilbeaedocjaaKeepN
import Derived.Test.YtkbilbeaedocjaaLawKeeperPrices
namespace Go.Proofs.Ytkbilbeaedocjaa
open Go Go.Proofs.Ytkbilbeaedocjaa.Wh
set_option maxRecDepth 100000

theorem come_len {fr : Nat → List Pair} {b : Nat} (hfr : ∀ x, (fr x).length ≤ 64) : ∀ all : List S_api_Offer, (all.flatMap (comeO fr b)).length ≤ 128 * all.length
  | [] => by simp
  | o :: all => by
    have ih := come_len (b := b) hfr all
    rw [List.flatMap_cons, List.length_append, List.length_cons]
    have h1 := hfr o.1.toNat
    have h2 := hfr o.2.1.toNat
    have : (comeO fr b o).length ≤ 128 := by
      unfold comeO
      rw [List.length_append]
      split <;> split <;> simp <;> omega
    omega
theorem flat_take {all : List S_api_Offer} {j : Nat} {o : S_api_Offer} {f : S_api_Offer → List Pair} (h : all[j]? = some o) : (all.take (j + 1)).flatMap f = (all.take j).flatMap f ++ f o := by
  rw [List.take_add_one, h, List.flatMap_append]
  simp
theorem law_KeeperFollows (p0 : S_api_Market) (p1 : Int) : ∃ fuel, M.f8 fuel p0 p1 = some true := by
  refine ⟨1000, ?_⟩
  unfold M.f8
  refine bnd sane_ok ?_
  simp only [Bool.not_true, Bool.false_eq_true, if_false]
  refine bnd (f31_eq p0 [] [p1] (by simp)) ?_
  cases hA : askB p0 [] [p1] with
  | false => rfl
  | true =>
    obtain ⟨n, kn, of, _, rfl, hm, hv, _, _, hcl⟩ := ask_cases hA
    simp only [List.all_cons, List.all_nil, Bool.and_true] at hcl
    obtain ⟨a, rfl, ha⟩ := clock_nat hcl
    have h8 := hm.n8
    have h6 := hm.lo
    have h24 := hm.lk
    simp only [Bool.not_true, Bool.false_eq_true, if_false]
    refine bnd (hm.f34s hv ha) ?_
    have hfl : ∀ x, (frontS n kn of a x).length ≤ 64 := frontS_len hm a
    have h43 : M.f43 (tab n (frontS n kn of a)) (fun x0 => M.f44 x0) = some false := by
      rw [f43_eq _ 64 (fun x0 => M.f44 x0) (fun x => rfl) (by rw [tab_len]; omega)]
      congr 1
      rw [List.any_eq_false]
      intro x hx
      unfold tab at hx
      obtain ⟨b, _, rfl⟩ := List.mem_map.1 hx
      have := hfl b
      simp; omega
    have hl0 : (((tab n (frontS n kn of a)).length : Int) != (n : Int)) = false := by rw [tab_len]; simp
    simp only [bne_self_eq_false, Bool.false_or, hl0, Bool.not_false, guardO]
    refine bnd h43 ?_
    simp only [Bool.not_false]
    refine bnd (idx_tab ha) (bnd (f45_eq (by rw [front_self hm ha]; simp)) ?_)
    rw [front_self hm ha]
    simp only [beq_self_eq_true, Bool.not_true, Bool.false_eq_true, if_false]
    refine bnd (f46_eq (by omega) (by omega)) ?_
    have hall : ∀ o ∈ kn ++ of, OkC n o ∧ 0 ≤ o.1 ∧ 0 ≤ o.2.1 := fun o ho => by
      have h1 : okB (n : Int) 10000 o = true := by
        rcases List.mem_append.1 ho with h | h
        · exact okB_mono (hm.k o h) (by omega)
        · exact hm.o o h
      refine ⟨okC_of h1, ?_⟩
      unfold okB at h1; simp at h1; omega
    have hlen : (kn ++ of).length ≤ 30 := by rw [List.length_append]; omega
    have hr : ∀ o ∈ kn ++ of, 0 ≤ o.2.2.2 ∧ o.2.2.2 ≤ 1048576 ∧ 0 ≤ o.2.2.1 ∧ o.2.2.1 ≤ 10000 := fun o ho => off_range hm ho
    rw [show (((tab n (frontS n kn of a)).length : Int)) = (n : Int) from by rw [tab_len]]
    refine bnd (forM_test (N := n) (fun _ => true) false (by omega) fun b hb _ => ?_) (by simp [Out.elim])
    refine bnd (idx_tab hb) ?_
    rw [if_pos rfl]
    generalize hgall : kn ++ of = all at *
    -- what comes
    refine bnd (forS_st (fun j => (all.take j).flatMap (comeO (frontS n kn of a) b)) rfl (by omega) fun j hj => ?_) ?_
    · have hx := List.getElem?_eq_getElem hj
      rw [flat_take hx, idx_nat, hx]
      have hcl := come_len (b := b) hfl (all.take j)
      rw [List.length_take] at hcl
      obtain ⟨⟨⟨x, hx1, hx2⟩, ⟨y, hy1, hy2⟩, hne⟩, _⟩ := hall all[j] (List.getElem_mem hj)
      have hro := hr all[j] (List.getElem_mem hj)
      generalize (all.take j).flatMap (comeO (frontS n kn of a) b) = S at *
      generalize all[j] = o at *
      obtain ⟨oa, ob, oc, ow⟩ := o
      have hx1 : oa = (x : Int) := hx1
      have hy1 : ob = (y : Int) := hy1
      subst hx1; subst hy1
      have hro : 0 ≤ ow ∧ ow ≤ 1048576 ∧ 0 ≤ oc ∧ oc ≤ 10000 := hro
      simp only [Option.bind_eq_bind, Option.bind_some]
      -- both ways
      have way : ∀ (z u : Nat) (S : List Pair), z < n → S.length ≤ 3900 → ((if ((u : Int) != (b : Int)) = true then some S else
          (idx (tab n (frontS n kn of a)) (z : Int)).bind fun v_45 => (forS 0 (v_45.length : Int) S fun i_47 s_49 => (idx v_45 i_47).bind fun v_54 => (idxA v_54 0).bind fun v_56 => (idxA v_54 1).bind fun v_58 => (app s_49 ([(#v[(wr (v_56 + oc)), (wr (v_58 + ow))] : Vector Int 2)] : List (Vector Int 2))).bind fun z_60 => some z_60).bind fun s_49 => some s_49) : Option (List Pair)) =
          some (S ++ if ((u : Int) = (b : Int)) then (frontS n kn of a z).map (addP ((x : Int), (y : Int), oc, ow)) else []) := by
        intro z u S hz hS
        by_cases e : (u : Int) = (b : Int)
        · rw [if_neg (by simpa using e), if_pos e, idx_tab hz]
          simp only [Option.bind_some]
          have hfz := hfl z
          have hmem : ∀ p ∈ frontS n kn of a z, p[0] ≤ 60000 ∧ 0 ≤ p[0] ∧ 0 ≤ p[1] ∧ p[1] ≤ 7340032 := fun p hp => by
            obtain ⟨s, hs, hlt, rfl⟩ := mem_prs.1 ((frontS_front n kn of a z).sub p hp)
            have h1 := hm.costs (s := s)
            have h2 := (hm.cl s).nonneg a z ha hz
            have h3 := hm.bound s ha hz hlt
            exact ⟨h1.2, h1.1, h2, h3⟩
          generalize frontS n kn of a z = F at *
          have := forS_st (f := fun i_47 s_49 => (idx F i_47).bind fun v_54 => (idxA v_54 0).bind fun v_56 => (idxA v_54 1).bind fun v_58 => (app s_49 ([(#v[(wr (v_56 + oc)), (wr (v_58 + ow))] : Vector Int 2)] : List (Vector Int 2))).bind fun z_60 => some z_60)
            (N := F.length) (s := S) (fun j => S ++ (F.take j).map (addP ((x : Int), (y : Int), oc, ow))) (by simp) (by omega) fun j hj => by
              have hx := List.getElem?_eq_getElem hj
              have hb := hmem F[j] (List.getElem_mem hj)
              rw [idx_nat, hx, List.take_add_one, hx, List.map_append]
              simp only [Option.bind_some, e0P, e1P]
              rw [wr_id (by omega) (by omega), wr_id (by omega) (by omega), app_one (by rw [List.length_append, List.length_map, List.length_take]; omega)]
              simp [addP]
          rw [this]
          simp
        · rw [if_pos (by simpa using e), if_neg e, List.append_nil]
      refine (forS_st (N := 2) (fun j => match j with | 0 => S | 1 => S ++ (if ((y : Int) = (b : Int)) then (frontS n kn of a x).map (addP ((x : Int), (y : Int), oc, ow)) else []) | _ => S ++ comeO (frontS n kn of a) b ((x : Int), (y : Int), oc, ow)) rfl (by omega) fun j hj => ?_) |> fun h => bnd h rfl
      match j, hj with
      | 0, _ => exact way x y S hx2 (by omega)
      | 1, _ =>
        have hl2 := hfl x
        refine (way y x (S ++ (if ((y : Int) = (b : Int)) then (frontS n kn of a x).map (addP ((x : Int), (y : Int), oc, ow)) else [])) hy2 ?_).trans ?_
        · rw [List.length_append]
          split <;> simp <;> omega
        · unfold comeO
          simp only [Int.toNat_natCast, List.append_assoc]
    · rw [List.take_length]
      have hcl := come_len (b := b) hfl all
      have hmem := fun p => mem_come (fr := frontS n kn of a) (b := b) (all := all) (p := p) fun o ho => (hall o ho).2
      have hF := frontS_front n kn of a b
      have hfb := hfl b
      have hcont : b ≠ a → ∀ p ∈ frontS n kn of a b, ((all.flatMap (comeO (frontS n kn of a) b)).any fun q => p == q) = true := by
        intro hab p hp
        obtain ⟨o, ho, x, hx, hl, q, hq, e0, e1⟩ := front_from hm ha hb hab hp
        rw [hgall] at ho
        rw [List.any_eq_true]
        refine ⟨p, (hmem p).2 ⟨o, ho, x, hl, q, hq, ?_⟩, by simp⟩
        exact pair_ext e0 e1
      have hdom : ∀ p ∈ all.flatMap (comeO (frontS n kn of a) b), ((frontS n kn of a b).any fun q => leP q p) = true := by
        intro p hp
        obtain ⟨o, ho, x, hl, q, hq, rfl⟩ := (hmem p).1 hp
        have hx : x < n := by
          obtain ⟨⟨u, hu1, hu2⟩, ⟨v, hv1, hv2⟩, _⟩ := (hall o ho).1
          unfold link at hl; omega
        obtain ⟨r, hr, r0, r1⟩ := front_to hm (by rw [hgall]; exact ho) ha hx hb hl hq
        rw [List.any_eq_true]
        exact ⟨r, hr, leP_iff.2 ⟨r0, r1⟩⟩
      generalize all.flatMap (comeO (frontS n kn of a) b) = C at *
      generalize frontS n kn of a b = F at *
      refine bnd (forM_test (N := F.length) (fun _ => true) false (by omega) fun i hi _ => ?_) ?_
      · have hx := List.getElem?_eq_getElem hi
        rw [idx_nat, hx, if_pos rfl]
        simp only [Option.bind_eq_bind, Option.bind_some]
        have hba : ((b : Int) != (a : Int)) = decide (b ≠ a) := by
          by_cases e : b = a
          · subst e; simp
          · simp [e]; omega
        have hlast : ∀ z : Bool, z = false → ((guardO ((!z) && ((b : Int) != (a : Int))) (M.f47 C F[i])).bind fun v_84 => if (z || (((b : Int) != (a : Int)) && (!v_84))) = true then some (.leave false) else some (.again ())) = (some (.again ()) : Option (Out Unit Bool)) := by
          intro z hz
          subst hz
          rw [hba]
          by_cases e : b = a
          · simp [e, guardO]
          · rw [f47_eq (by omega), hcont e F[i] (List.getElem_mem hi)]
            simp [e, guardO]
        by_cases h0 : i = 0
        · subst h0
          have := hlast false rfl
          simpa [guardO] using this
        · have hpos : (0 : Int) < (i : Int) := by omega
          have ew : wr ((i : Int) - 1) = ((i - 1 : Nat) : Int) := by rw [wr_id (by omega) (by omega)]; omega
          have hx1 := List.getElem?_eq_getElem (show i - 1 < F.length by omega)
          have hinc := List.pairwise_iff_getElem.1 hF.inc (i - 1) i (by omega) hi (by omega)
          have c1 : ¬ F[i][0] ≤ F[i - 1][0] := by omega
          have c2 : ¬ F[i - 1][1] ≤ F[i][1] := by omega
          simp only [hpos, decide_true, guardO, ew, idx_nat, hx1, Option.bind_some, e0P, e1P, c1, c2, decide_false, Bool.not_false, Bool.and_self, Bool.or_self, Bool.and_false]
          exact hlast false rfl
      · simp only [List.all_eq_true, List.mem_range, implies_true, if_true, Out.elim]
        refine bnd (forM_test (N := C.length) (fun _ => true) false (by omega) fun i hi _ => ?_) ?_
        · have hx := List.getElem?_eq_getElem hi
          rw [idx_nat, hx, if_pos rfl]
          simp only [Option.bind_eq_bind, Option.bind_some]
          rw [f48_eq (by omega), hdom C[i] (List.getElem_mem hi)]
          rfl
        · simp [Out.elim]
end Go.Proofs.Ytkbilbeaedocjaa
