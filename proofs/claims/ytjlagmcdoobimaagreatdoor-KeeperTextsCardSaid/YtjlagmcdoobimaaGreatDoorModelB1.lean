/-
  Models of Go functions, written by program; nothing is claimed here.
-/
import Derived.Test.YtjlagmcdoobimaaGreatDoorModelA
import Derived.Test.YtjlagmcdoobimaaGreatDoorGivenMb
namespace Go.Proofs.YtjlagmcdoobimaaGreatDoor.M
open Go Go.Proofs.YtjlagmcdoobimaaGreatDoor Go.Proofs.YtjlagmcdoobimaaGreatDoor.Wh

/-- waterhour/waterhourlaw08.example -/
def f9  : Option S_api_Market :=
  some ((3, [], ([((0, 1, 5, 10) : S_api_Offer), ((1, 2, 4, 10) : S_api_Offer), ((0, 2, 12, 5) : S_api_Offer)] : List S_api_Offer)) : S_api_Market)

/-- waterhour/keeper.isOffer -/
def f22 (p0 : S_api_Offer) (p1 : Int) (p2 : Int) : Option Bool :=
  some (((((((((decide (0 ≤ p0.1)) && (decide (p0.1 < p1))) && (decide (0 ≤ p0.2.1))) && (decide (p0.2.1 < p1))) && (p0.1 != p0.2.1)) && (decide (0 ≤ p0.2.2.2))) && (decide (p0.2.2.2 ≤ 1048576))) && (decide (0 ≤ p0.2.2.1))) && (decide (p0.2.2.1 ≤ p2)))

/-- waterhour/keeper.Check -/
def f21 (p0 : S_api_Market) : Option Int :=
  (if ((((decide (p0.1 < 2)) || (decide (8 < p0.1))) || (decide (24 < (p0.2.1.length : Int)))) || (decide (12 < (p0.2.2.length : Int)))) = true then (
  some 80)
  else (
  (forM (ρ := Int) 0 (p0.2.1.length : Int) (() : Unit) fun i_1 _s_3 =>
    (idx p0.2.1 i_1) >>= fun v_7 =>
    (M.f22 v_7 p0.1 0) >>= fun v_9 =>
    (if (!v_9) = true then (
    some (.leave 80))
    else (
    some (.again ())))) >>= fun o_4 => Out.elim o_4 (fun _s_3 =>
    (forM (ρ := Int) 0 (p0.2.2.length : Int) (() : Unit) fun i_11 _s_13 =>
      (idx p0.2.2 i_11) >>= fun v_17 =>
      (M.f22 v_17 p0.1 10000) >>= fun v_19 =>
      (if (!v_19) = true then (
      some (.leave 80))
      else (
      some (.again ())))) >>= fun o_14 => Out.elim o_14 (fun _s_13 =>
      some 0) (fun p_21 =>
      some p_21)) (fun p_22 =>
    some p_22)))

/-- waterhour/keeper.asked -/
def f29 (p0 : S_api_Market) (p1 : List Int) (p2 : S_keeper_numbers) : Option Int :=
  (M.f21 p0) >>= fun v_1 =>
  (if (v_1 != 0) = true then (
  some v_1)
  else (
  (forM (ρ := Int) 0 (p1.length : Int) (() : Unit) fun i_3 _s_5 =>
    (idx p1 i_3) >>= fun v_9 =>
    (guardO ((!((decide (v_9 < 0)) || (decide ((p0.2.2.length : Int) ≤ v_9)))) && (decide (0 < i_3))) (idx p1 (wr (i_3 - 1)))) >>= fun v_11 =>
    (if (((decide (v_9 < 0)) || (decide ((p0.2.2.length : Int) ≤ v_9))) || ((decide (0 < i_3)) && (decide (v_9 ≤ v_11)))) = true then (
    some (.leave 1))
    else (
    some (.again ())))) >>= fun o_6 => Out.elim o_6 (fun _s_5 =>
    (forM (ρ := Int) 0 (p2.1.length : Int) (() : Unit) fun i_13 _s_15 =>
      (idx p2.1 i_13) >>= fun v_19 =>
      (if ((decide (v_19 < 0)) || (decide (p0.1 ≤ v_19))) = true then (
      some (.leave 1))
      else (
      some (.again ())))) >>= fun o_16 => Out.elim o_16 (fun _s_15 =>
      (forM (ρ := Int) 0 (p2.2.length : Int) (() : Unit) fun i_21 _s_23 =>
        (idx p2.2 i_21) >>= fun v_27 =>
        (if ((decide (v_27 < 0)) || (decide (16777216 < v_27))) = true then (
        some (.leave 1))
        else (
        some (.again ())))) >>= fun o_24 => Out.elim o_24 (fun _s_23 =>
        some 0) (fun p_29 =>
        some p_29)) (fun p_30 =>
      some p_30)) (fun p_31 =>
    some p_31)))

/-- waterhour/keeper.setOf -/
def f31 (p0 : List Int) : Option Int :=
  (forS 0 (p0.length : Int) (0 : Int) fun i_1 s_3 =>
    (idx p0 i_1) >>= fun v_7 =>
    (shl 1 v_7) >>= fun v_9 =>
    some (bor s_3 v_9)) >>= fun s_3 =>
  some s_3

/-- waterhour/keeper.blank -/
def f38 (p0 : Int) : Option (List (List Int)) :=
  (mk p0 ([] : List Int)) >>= fun q_1 =>
  (forS 0 p0 (q_1 : (List (List Int))) fun i_4 s_6 =>
    (mk p0 (0 : Int)) >>= fun q_12 =>
    (idx s_6 i_4) >>= fun _v_15 =>
    (set1 s_6 i_4 q_12) >>= fun z_17 =>
    (forS 0 p0 (z_17 : (List (List Int))) fun i_20 s_22 =>
      (idx s_22 i_4) >>= fun v_26 =>
      (idx v_26 i_20) >>= fun _v_28 =>
      (set2 s_22 i_4 i_20 1099511627776) >>= fun z_30 =>
      some z_30) >>= fun s_22 =>
    some s_22) >>= fun s_6 =>
  some s_6

/-- (waterhour/keeper.set).list -/
def f57 (p0 : Int) : Option (List Int) :=
  (forS 0 12 (([] : List Int) : (List Int)) fun i_1 s_3 =>
    (shr p0 i_1) >>= fun v_8 =>
    (if ((band v_8 1) == 1) = true then (
    (app s_3 ([i_1] : List Int)) >>= fun z_13 =>
    some z_13)
    else (
    some s_3)) >>= fun y_11 =>
    some y_11) >>= fun s_3 =>
  some s_3

/-- waterhour/keeper.steps -/
def f46 (p0 : S_api_Market) (p1 : Int) : Option (List (List Int)) :=
  (M.f38 p0.1) >>= fun m_1 =>
  (M.f65 p0.2.1) >>= fun m_5 =>
  (M.f57 p1) >>= fun v_9 =>
  (forS 0 (v_9.length : Int) (m_5 : (List S_api_Offer)) fun i_11 s_13 =>
    (idx v_9 i_11) >>= fun v_18 =>
    (idx p0.2.2 v_18) >>= fun v_20 =>
    (app s_13 ([v_20] : List S_api_Offer)) >>= fun z_22 =>
    some z_22) >>= fun s_13 =>
  (forS 0 (s_13.length : Int) (m_1 : (List (List Int))) fun i_25 s_27 =>
    (idx s_13 i_25) >>= fun v_31 =>
    (idx s_27 v_31.1) >>= fun v_33 =>
    (idx v_33 v_31.2.1) >>= fun v_35 =>
    (idx s_27 v_31.1) >>= fun v_37 =>
    (idx s_27 v_31.2.1) >>= fun v_39 =>
    (idx v_37 v_31.2.1) >>= fun _v_41 =>
    (set2 s_27 v_31.1 v_31.2.1 (imin v_35 v_31.2.2.2)) >>= fun z_43 =>
    (idx v_39 v_31.1) >>= fun _v_45 =>
    (set2 z_43 v_31.2.1 v_31.1 (imin v_35 v_31.2.2.2)) >>= fun z_47 =>
    some z_47) >>= fun s_27 =>
  some s_27

/-- waterhour/keeper.widths -/
def f30 (p0 : S_api_Market) (p1 : Int) : Option (List (List Int)) :=
  (M.f46 p0 p1) >>= fun m_1 =>
  (forS 0 p0.1 (m_1 : (List (List Int))) fun i_5 s_7 =>
    (idx s_7 i_5) >>= fun v_11 =>
    (idx v_11 i_5) >>= fun _v_13 =>
    (set2 s_7 i_5 i_5 0) >>= fun z_15 =>
    some z_15) >>= fun s_7 =>
  (forS 0 p0.1 (s_7 : (List (List Int))) fun i_17 s_19 =>
    (forS 0 p0.1 (s_19 : (List (List Int))) fun i_23 s_25 =>
      (forS 0 p0.1 (s_25 : (List (List Int))) fun i_29 s_31 =>
        (idx s_31 i_23) >>= fun v_35 =>
        (idx v_35 i_17) >>= fun v_37 =>
        (idx s_31 i_17) >>= fun v_39 =>
        (idx v_39 i_29) >>= fun v_41 =>
        (idx s_31 i_23) >>= fun v_43 =>
        (idx v_43 i_29) >>= fun v_45 =>
        (if (decide ((wr (v_37 + v_41)) < v_45)) = true then (
        (idx s_31 i_23) >>= fun v_49 =>
        (idx v_49 i_29) >>= fun _v_51 =>
        (set2 s_31 i_23 i_29 (wr (v_37 + v_41))) >>= fun z_53 =>
        some z_53)
        else (
        some s_31)) >>= fun y_48 =>
        some y_48) >>= fun s_31 =>
      some s_31) >>= fun s_25 =>
    some s_25) >>= fun s_19 =>
  some s_19

/-- waterhour/keeper.Width -/
def f10 (p0 : S_api_Market) (p1 : List Int) (p2 : Int) (p3 : Int) : Option (Int × Bool × Int) :=
  (M.f29 p0 p1 ((([p2, p3] : List Int), []) : S_keeper_numbers)) >>= fun v_1 =>
  (if (v_1 != 0) = true then (
  some (0, false, v_1))
  else (
  (M.f31 p1) >>= fun v_3 =>
  (M.f30 p0 v_3) >>= fun v_5 =>
  (idx v_5 p2) >>= fun v_7 =>
  (idx v_7 p3) >>= fun v_9 =>
  (if (decide (1099511627776 ≤ v_9)) = true then (
  some (0, false, 0))
  else (
  (idx v_5 p2) >>= fun v_11 =>
  (idx v_11 p3) >>= fun v_13 =>
  some (v_13, true, 0)))))

/-- waterhour/keeper.within$1 -/
def f55 (p0 : Int) (c0 : S_api_Market) (c1 : Int) (c2 : Int) (c3 : Int) : Option Bool :=
  (M.f30 c0 p0) >>= fun v_1 =>
  (idx v_1 c1) >>= fun v_3 =>
  (idx v_3 c2) >>= fun v_5 =>
  some (decide (v_5 ≤ c3))

/-- waterhour/keeper.within -/
def f32 (p0 : S_api_Market) (p1 : Int) (p2 : Int) (p3 : Int) : Option S_keeper_want :=
  some ((((fun x0 => M.f55 x0 p0 p1 p2 p3) : (Int → Option Bool)), ()) : S_keeper_want)

/-- (waterhour/keeper.set).cost -/
def f45 (p0 : Int) (p1 : S_api_Market) : Option Int :=
  (M.f57 p0) >>= fun v_1 =>
  (forS 0 (v_1.length : Int) (0 : Int) fun i_3 s_5 =>
    (idx v_1 i_3) >>= fun v_9 =>
    (idx p1.2.2 v_9) >>= fun v_11 =>
    some (wr (s_5 + v_11.2.2.1))) >>= fun s_5 =>
  some s_5

/-- slices.Compare[[]int,int] -/
def f77 (p0 : List Int) (p1 : List Int) : Option Int :=
  (forM (ρ := Int) 0 (p0.length : Int) (() : Unit) fun i_1 _s_3 =>
    (idx p0 i_1) >>= fun v_7 =>
    (if (decide ((p1.length : Int) ≤ i_1)) = true then (
    some (.leave 1))
    else (
    (idx p1 i_1) >>= fun v_9 =>
    (M.f61 v_7 v_9) >>= fun v_11 =>
    (if (v_11 != 0) = true then (
    some (.leave v_11))
    else (
    some (.again ())))))) >>= fun o_4 => Out.elim o_4 (fun _s_3 =>
    (if (decide ((p0.length : Int) < (p1.length : Int))) = true then (
    some (-1))
    else (
    some 0))) (fun p_13 =>
    some p_13)

/-- (waterhour/keeper.choice).before -/
def f56 (p0 : S_keeper_choice) (p1 : S_keeper_choice) : Option Bool :=
  (M.f57 p0.2.2) >>= fun v_1 =>
  (M.f57 p1.2.2) >>= fun v_3 =>
  (M.f61 p0.2.1 p1.2.1) >>= fun v_5 =>
  (M.f61 (v_1.length : Int) (v_3.length : Int)) >>= fun v_7 =>
  (M.f77 v_1 v_3) >>= fun v_9 =>
  (M.f60 ([v_5, v_7, v_9] : List Int)) >>= fun v_11 =>
  some (decide (v_11 < 0))

/-- (waterhour/keeper.want).least -/
def f33 (p0 : S_keeper_want) (p1 : S_api_Market) : Option S_keeper_choice :=
  (shl 1 (p1.2.2.length : Int)) >>= fun v_2 =>
  (forS 0 v_2 (((false, 0, 0) : S_keeper_choice) : S_keeper_choice) fun i_4 s_6 =>
    (M.f45 i_4 p1) >>= fun v_10 =>
    (guardO (!(s_6 == ((false, 0, 0) : S_keeper_choice))) (M.f56 ((true, v_10, i_4) : S_keeper_choice) s_6)) >>= fun v_12 =>
    (guardO ((s_6 == ((false, 0, 0) : S_keeper_choice)) || v_12) (p0.1 i_4)) >>= fun v_14 =>
    (if (((s_6 == ((false, 0, 0) : S_keeper_choice)) || v_12) && v_14) = true then (
    some ((true, v_10, i_4) : S_keeper_choice))
    else (
    some s_6)) >>= fun y_17 =>
    some y_17) >>= fun s_6 =>
  some s_6

/-- (waterhour/keeper.choice).list -/
def f34 (p0 : S_keeper_choice) : Option ((List Int) × Bool × Int) :=
  (if (p0 == ((false, 0, 0) : S_keeper_choice)) = true then (
  some (([] : List Int), false, 0))
  else (
  (M.f57 p0.2.2) >>= fun v_1 =>
  some (v_1, true, 0)))

/-- waterhour/keeper.Best -/
def f11 (p0 : S_api_Market) (p1 : Int) (p2 : Int) (p3 : Int) : Option ((List Int) × Bool × Int) :=
  (M.f29 p0 ([] : List Int) ((([p1, p2] : List Int), ([p3] : List Int)) : S_keeper_numbers)) >>= fun v_1 =>
  (if (v_1 != 0) = true then (
  some (([] : List Int), false, v_1))
  else (
  (M.f32 p0 p1 p2 p3) >>= fun v_3 =>
  (M.f33 v_3 p0) >>= fun v_5 =>
  (M.f34 v_5) >>= fun v_7 =>
  some (v_7.1, v_7.2.1, v_7.2.2)))

/-- slices.Equal[[]int,int] -/
def f12 (p0 : List Int) (p1 : List Int) : Option Bool :=
  (if ((p0.length : Int) != (p1.length : Int)) = true then (
  some false)
  else (
  (forM (ρ := Bool) 0 (p0.length : Int) (() : Unit) fun i_1 _s_3 =>
    (idx p0 i_1) >>= fun v_7 =>
    (idx p1 i_1) >>= fun v_9 =>
    (if (v_7 != v_9) = true then (
    some (.leave false))
    else (
    some (.again ())))) >>= fun o_4 => Out.elim o_4 (fun _s_3 =>
    some true) (fun p_11 =>
    some p_11)))

/-- waterhour/keeper.fronts -/
def f35 (p0 : S_api_Market) (p1 : Int) : Option (List (List (Vector Int 2))) :=
  (mk p0.1 ([] : List (Vector Int 2))) >>= fun q_1 =>
  (shl 1 (p0.2.2.length : Int)) >>= fun v_4 =>
  (forS 0 v_4 (q_1 : (List (List (Vector Int 2)))) fun i_6 s_8 =>
    (M.f30 p0 i_6) >>= fun v_14 =>
    (M.f45 i_6 p0) >>= fun v_16 =>
    (forS 0 (s_8.length : Int) (s_8 : (List (List (Vector Int 2)))) fun i_18 s_20 =>
      (idx v_14 p1) >>= fun v_26 =>
      (idx v_26 i_18) >>= fun v_28 =>
      (if (decide (v_28 < 1099511627776)) = true then (
      (idx s_20 i_18) >>= fun _v_34 =>
      (idx v_14 p1) >>= fun v_36 =>
      (idx v_36 i_18) >>= fun v_38 =>
      (idx s_20 i_18) >>= fun r_41 =>
      (app r_41 ([(#v[v_16, v_38] : Vector Int 2)] : List (Vector Int 2))) >>= fun z_43 =>
      (idx s_20 i_18) >>= fun _v_46 =>
      (set1 s_20 i_18 z_43) >>= fun z_48 =>
      some z_48)
      else (
      some s_20)) >>= fun y_31 =>
      some y_31) >>= fun s_20 =>
    some s_20) >>= fun s_8 =>
  (forS 0 (s_8.length : Int) (s_8 : (List (List (Vector Int 2)))) fun i_51 s_53 =>
    (idx s_53 i_51) >>= fun _v_59 =>
    (idx s_53 i_51) >>= fun r_62 =>
    (M.f58 r_62 (fun x0 x1 => M.f59 x0 x1)) >>= fun z_64 =>
    (forS 0 (z_64.length : Int) (([] : List (Vector Int 2)) : (List (Vector Int 2))) fun i_66 s_68 =>
      (idx z_64 i_66) >>= fun v_73 =>
      (guardO (!((s_68.length : Int) == 0)) (idxA v_73 1)) >>= fun v_75 =>
      (guardO (!((s_68.length : Int) == 0)) (idx s_68 (wr ((s_68.length : Int) - 1)))) >>= fun v_77 =>
      (guardO (!((s_68.length : Int) == 0)) (idxA v_77 1)) >>= fun v_79 =>
      (if (((s_68.length : Int) == 0) || (decide (v_75 < v_79))) = true then (
      (app s_68 ([v_73] : List (Vector Int 2))) >>= fun z_84 =>
      some z_84)
      else (
      some s_68)) >>= fun y_82 =>
      some y_82) >>= fun s_68 =>
    (idx s_53 i_51) >>= fun _v_87 =>
    (set1 s_53 i_51 s_68) >>= fun z_89 =>
    some z_89) >>= fun s_53 =>
  some s_53

/-- waterhour/keeper.Fronts -/
def f13 (p0 : S_api_Market) (p1 : Int) : Option ((List (List (Vector Int 2))) × Int) :=
  (M.f29 p0 ([] : List Int) ((([p1] : List Int), []) : S_keeper_numbers)) >>= fun v_1 =>
  (if (v_1 != 0) = true then (
  some (([] : List (List (Vector Int 2))), v_1))
  else (
  (M.f35 p0 p1) >>= fun v_3 =>
  some (v_3, 0)))

/-- waterhour/keeper.together$1 -/
def f62 (p0 : Int) (c0 : S_api_Market) (c1 : Int) : Option Bool :=
  (M.f30 c0 p0) >>= fun v_1 =>
  (forM (ρ := Bool) 0 c0.1 (() : Unit) fun i_3 _s_5 =>
    (forM (ρ := Bool) 0 c0.1 (() : Unit) fun i_9 _s_11 =>
      (idx v_1 i_3) >>= fun v_15 =>
      (idx v_15 i_9) >>= fun v_17 =>
      (if (decide (c1 < v_17)) = true then (
      some (.leave false))
      else (
      some (.again ())))) >>= fun o_12 => Out.elim o_12 (fun _s_11 =>
      some (.again ())) (fun p_19 =>
      some (.leave p_19))) >>= fun o_6 => Out.elim o_6 (fun _s_5 =>
    some true) (fun p_20 =>
    some p_20)

/-- waterhour/keeper.together -/
def f36 (p0 : S_api_Market) (p1 : Int) : Option S_keeper_want :=
  some ((((fun x0 => M.f62 x0 p0 p1) : (Int → Option Bool)), ()) : S_keeper_want)

/-- waterhour/keeper.Together -/
def f14 (p0 : S_api_Market) (p1 : Int) : Option ((List Int) × Bool × Int) :=
  (M.f29 p0 ([] : List Int) (([], ([p1] : List Int)) : S_keeper_numbers)) >>= fun v_1 =>
  (if (v_1 != 0) = true then (
  some (([] : List Int), false, v_1))
  else (
  (M.f36 p0 p1) >>= fun v_3 =>
  (M.f33 v_3 p0) >>= fun v_5 =>
  (M.f34 v_5) >>= fun v_7 =>
  some (v_7.1, v_7.2.1, v_7.2.2)))

/-- waterhour/keeper.tells -/
def f37 (p0 : List S_api_Offer) (p1 : List S_api_Span) : Option Bool :=
  (if ((p0.length : Int) != (p1.length : Int)) = true then (
  some false)
  else (
  (forM (ρ := Bool) 0 (p1.length : Int) (() : Unit) fun i_1 _s_3 =>
    (idx p1 i_1) >>= fun v_7 =>
    (guardO (!((decide (v_7.1 < (-1073741824))) || (decide (1073741824 < v_7.1)))) (idx p0 i_1)) >>= fun v_10 =>
    (if (((decide (v_7.1 < (-1073741824))) || (decide (1073741824 < v_7.1))) || (v_7.2 != (wr (v_7.1 + v_10.2.2.2)))) = true then (
    some (.leave false))
    else (
    some (.again ())))) >>= fun o_4 => Out.elim o_4 (fun _s_3 =>
    some true) (fun p_12 =>
    some p_12)))

/-- slices.Concat[[]waterhour/api.Offer,waterhour/api.Offer] -/
def f39 (p0 : List (List S_api_Offer)) : Option (List S_api_Offer) :=
  (forS 0 (p0.length : Int) (0 : Int) fun i_1 s_3 =>
    (idx p0 i_1) >>= fun v_7 =>
    (if (decide ((wr (s_3 + (v_7.length : Int))) < 0)) = true then (
    none)
    else (
    some ())) >>= fun () =>
    some (wr (s_3 + (v_7.length : Int)))) >>= fun s_3 =>
  (M.f63 s_3) >>= fun _m_10 =>
  (forS 0 (p0.length : Int) (([] : List S_api_Offer) : (List S_api_Offer)) fun i_14 s_16 =>
    (idx p0 i_14) >>= fun v_21 =>
    (app s_16 v_21) >>= fun z_23 =>
    some z_23) >>= fun s_16 =>
  some s_16

/-- slices.Concat[[]waterhour/api.Span,waterhour/api.Span] -/
def f40 (p0 : List (List S_api_Span)) : Option (List S_api_Span) :=
  (forS 0 (p0.length : Int) (0 : Int) fun i_1 s_3 =>
    (idx p0 i_1) >>= fun v_7 =>
    (if (decide ((wr (s_3 + (v_7.length : Int))) < 0)) = true then (
    none)
    else (
    some ())) >>= fun () =>
    some (wr (s_3 + (v_7.length : Int)))) >>= fun s_3 =>
  (M.f64 s_3) >>= fun _m_10 =>
  (forS 0 (p0.length : Int) (([] : List S_api_Span) : (List S_api_Span)) fun i_14 s_16 =>
    (idx p0 i_14) >>= fun v_21 =>
    (app s_16 v_21) >>= fun z_23 =>
    some z_23) >>= fun s_16 =>
  some s_16

/-- waterhour/keeper.Known -/
def f15 (p0 : S_api_Market) (p1 : List Int) (p2 : Int) (p3 : Int) (p4 : List S_api_Span) (p5 : List S_api_Span) : Option (S_api_Span × Bool × Int) :=
  (M.f29 p0 p1 ((([p2, p3] : List Int), []) : S_keeper_numbers)) >>= fun v_2 =>
  (if (v_2 != 0) = true then (
  some (((0, 0) : S_api_Span), false, v_2))
  else (
  (forS 0 (p1.length : Int) (([] : List S_api_Offer) : (List S_api_Offer)) fun i_4 s_6 =>
    (idx p1 i_4) >>= fun v_11 =>
    (idx p0.2.2 v_11) >>= fun v_13 =>
    (app s_6 ([v_13] : List S_api_Offer)) >>= fun z_15 =>
    some z_15) >>= fun s_6 =>
  (M.f37 p0.2.1 p4) >>= fun v_18 =>
  (guardO (!(!v_18)) (M.f37 s_6 p5)) >>= fun v_20 =>
  (if ((!v_18) || (!v_20)) = true then (
  some (((0, 0) : S_api_Span), false, 1))
  else (
  (M.f38 p0.1) >>= fun m_22 =>
  (forS 0 p0.1 (m_22 : (List (List Int))) fun i_26 s_28 =>
    (idx s_28 i_26) >>= fun v_32 =>
    (idx v_32 i_26) >>= fun _v_34 =>
    (set2 s_28 i_26 i_26 0) >>= fun z_36 =>
    some z_36) >>= fun s_28 =>
  (M.f39 ([p0.2.1, s_6] : List (List S_api_Offer))) >>= fun v_38 =>
  (forS 0 (v_38.length : Int) (s_28 : (List (List Int))) fun i_40 s_42 =>
    (idx v_38 i_40) >>= fun v_46 =>
    (M.f40 ([p4, p5] : List (List S_api_Span))) >>= fun v_49 =>
    (idx v_49 i_40) >>= fun v_51 =>
    (idx s_42 v_46.2.1) >>= fun v_53 =>
    (idx s_42 v_46.1) >>= fun v_55 =>
    (idx s_42 v_46.2.1) >>= fun v_57 =>
    (idx v_57 v_46.1) >>= fun v_59 =>
    (idx s_42 v_46.1) >>= fun v_61 =>
    (idx v_61 v_46.2.1) >>= fun v_63 =>
    (idx v_53 v_46.1) >>= fun _v_65 =>
    (set2 s_42 v_46.2.1 v_46.1 (imin v_59 v_51.2)) >>= fun z_67 =>
    (idx v_55 v_46.2.1) >>= fun _v_69 =>
    (set2 z_67 v_46.1 v_46.2.1 (imin v_63 (wr (0 - v_51.1)))) >>= fun z_71 =>
    some z_71) >>= fun s_42 =>
  (forS 0 p0.1 (s_42 : (List (List Int))) fun i_73 s_75 =>
    (forS 0 p0.1 (s_75 : (List (List Int))) fun i_79 s_81 =>
      (forS 0 p0.1 (s_81 : (List (List Int))) fun i_85 s_87 =>
        (idx s_87 i_79) >>= fun v_91 =>
        (idx v_91 i_73) >>= fun v_93 =>
        (guardO (decide (v_93 < 1099511627776)) (idx s_87 i_73)) >>= fun v_95 =>
        (guardO (decide (v_93 < 1099511627776)) (idx v_95 i_85)) >>= fun v_97 =>
        (if ((decide (v_93 < 1099511627776)) && (decide (v_97 < 1099511627776))) = true then (
        (idx s_87 i_79) >>= fun v_101 =>
        (idx s_87 i_79) >>= fun v_103 =>
        (idx v_103 i_85) >>= fun v_105 =>
        (idx s_87 i_79) >>= fun v_107 =>
        (idx v_107 i_73) >>= fun v_109 =>
        (idx s_87 i_73) >>= fun v_111 =>
        (idx v_111 i_85) >>= fun v_113 =>
        (idx v_101 i_85) >>= fun _v_115 =>
        (set2 s_87 i_79 i_85 (imin v_105 (wr (v_109 + v_113)))) >>= fun z_117 =>
        some z_117)
        else (
        some s_87)) >>= fun y_100 =>
        some y_100) >>= fun s_87 =>
      some s_87) >>= fun s_81 =>
    some s_81) >>= fun s_75 =>
  (forM (ρ := (S_api_Span × Bool × Int)) 0 p0.1 (() : Unit) fun i_119 _s_121 =>
    (idx s_75 i_119) >>= fun v_125 =>
    (idx v_125 i_119) >>= fun v_127 =>
    (if (decide (v_127 < 0)) = true then (
    some (.leave (((0, 0) : S_api_Span), false, 31)))
    else (
    some (.again ())))) >>= fun o_122 => Out.elim o_122 (fun _s_121 =>
    (idx s_75 p2) >>= fun v_129 =>
    (idx v_129 p3) >>= fun v_131 =>
    (if (decide (1099511627776 ≤ v_131)) = true then (
    some (((0, 0) : S_api_Span), false, 0))
    else (
    (idx s_75 p2) >>= fun v_133 =>
    (idx v_133 p3) >>= fun v_135 =>
    (idx s_75 p3) >>= fun v_137 =>
    (idx v_137 p2) >>= fun v_139 =>
    some ((((wr (0 - v_135)), v_139) : S_api_Span), true, 0)))) (fun p_141 =>
    some (p_141.1, p_141.2.1, p_141.2.2))))))

/-- waterhour/keeper.everything -/
def f44 (p0 : S_api_Market) : Option Int :=
  (shl 1 (p0.2.2.length : Int)) >>= fun v_1 =>
  some (wr (v_1 - 1))

/-- waterhour/keeper.reachable -/
def f41 (p0 : S_api_Market) (p1 : Int) (p2 : Int) (p3 : Int) : Option Int :=
  (M.f29 p0 ([] : List Int) ((([p1, p2] : List Int), ([p3] : List Int)) : S_keeper_numbers)) >>= fun v_1 =>
  (if (v_1 != 0) = true then (
  some v_1)
  else (
  (M.f32 p0 p1 p2 p3) >>= fun v_3 =>
  (M.f44 p0) >>= fun v_5 =>
  (v_3.1 v_5) >>= fun v_7 =>
  (if (!v_7) = true then (
  some 4)
  else (
  some 0))))

/-- waterhour/keeper.Price$1 -/
def f42 (p0 : Int) (c0 : Int) (c1 : S_keeper_want) : Option Bool :=
  (shr p0 c0) >>= fun v_1 =>
  (guardO ((band v_1 1) == 1) (c1.1 p0)) >>= fun v_3 =>
  some (((band v_1 1) == 1) && v_3)

/-- waterhour/keeper.Price$2 -/
def f43 (p0 : Int) (c0 : Int) (c1 : S_keeper_want) : Option Bool :=
  (shr p0 c0) >>= fun v_1 =>
  (guardO ((band v_1 1) == 0) (c1.1 p0)) >>= fun v_3 =>
  some (((band v_1 1) == 0) && v_3)

/-- waterhour/keeper.Price -/
def f16 (p0 : S_api_Market) (p1 : Int) (p2 : Int) (p3 : Int) (p4 : Int) : Option (Int × Bool × Int) :=
  (M.f29 p0 ([] : List Int) ((([p1, p2] : List Int), ([p3] : List Int)) : S_keeper_numbers)) >>= fun v_1 =>
  (if (v_1 != 0) = true then (
  some (0, false, v_1))
  else (
  (if ((decide (p4 < 0)) || (decide ((p0.2.2.length : Int) ≤ p4))) = true then (
  some (0, false, 1))
  else (
  (M.f41 p0 p1 p2 p3) >>= fun v_3 =>
  (if (v_3 != 0) = true then (
  some (0, false, v_3))
  else (
  (M.f32 p0 p1 p2 p3) >>= fun v_5 =>
  (M.f33 ((((fun x0 => M.f42 x0 p4 v_5) : (Int → Option Bool)), ()) : S_keeper_want) p0) >>= fun v_7 =>
  (M.f33 ((((fun x0 => M.f43 x0 p4 v_5) : (Int → Option Bool)), ()) : S_keeper_want) p0) >>= fun v_9 =>
  (if (v_9 == ((false, 0, 0) : S_keeper_choice)) = true then (
  some (0, false, 0))
  else (
  some ((wr (v_9.2.1 - v_7.2.1)), true, 0)))))))))

/-- waterhour/waterhourref08.SameFronts -/
def f17 (fuel : Nat) (p0 : List (List (Vector Int 2))) (p1 : List (List (Vector Int 2))) : Option Bool :=
  (if ((p0.length : Int) != (p1.length : Int)) = true then (
  some false)
  else (
  (loopM (ρ := (Unit ⊕ Bool)) (fun s_1 : Int =>
    (if (decide (s_1 < (p0.length : Int))) = true then (
    (idx p0 s_1) >>= fun v_5 =>
    (idx p1 s_1) >>= fun v_7 =>
    (if ((v_5.length : Int) != (v_7.length : Int)) = true then (
    some (.leave (.inr false)))
    else (
    (loopM (ρ := (Unit ⊕ Bool)) (fun s_9 : Int =>
      (idx p0 s_1) >>= fun v_13 =>
      (if (decide (s_9 < (v_13.length : Int))) = true then (
      (idx p0 s_1) >>= fun v_15 =>
      (idx v_15 s_9) >>= fun v_17 =>
      (idx p1 s_1) >>= fun v_19 =>
      (idx v_19 s_9) >>= fun v_21 =>
      (if (v_17 != v_21) = true then (
      some (.leave (.inr false)))
      else (
      some (.again (wr (s_9 + 1))))))
      else (
      some (.leave (.inl ()))))) fuel (0 : Int)) >>= fun o_10 =>
    (fun x_ => sumE x_ (fun _p_23 =>
      some (.again (wr (s_1 + 1)))) (fun p_24 =>
      some (.leave (.inr p_24)))) o_10)))
    else (
    some (.leave (.inl ()))))) fuel (0 : Int)) >>= fun o_2 =>
  (fun x_ => sumE x_ (fun _p_25 =>
    some true) (fun p_26 =>
    some p_26)) o_2))

/-- waterhour/keeper.Needed -/
def f18 (p0 : S_api_Market) (p1 : Int) (p2 : Int) (p3 : Int) : Option ((List Int) × Int) :=
  (M.f41 p0 p1 p2 p3) >>= fun v_1 =>
  (if (v_1 != 0) = true then (
  some (([] : List Int), v_1))
  else (
  (M.f32 p0 p1 p2 p3) >>= fun v_3 =>
  (forS 0 (p0.2.2.length : Int) (([] : List Int) : (List Int)) fun i_5 s_7 =>
    (M.f44 p0) >>= fun v_12 =>
    (shl 1 i_5) >>= fun v_14 =>
    (v_3.1 (bclr v_12 v_14)) >>= fun v_16 =>
    (if (!v_16) = true then (
    (app s_7 ([i_5] : List Int)) >>= fun z_21 =>
    some z_21)
    else (
    some s_7)) >>= fun y_19 =>
    some y_19) >>= fun s_7 =>
  some (s_7, 0)))

/-- waterhour/keeper.Least -/
def f19 (p0 : S_api_Market) (p1 : Int) (p2 : Int) (p3 : Int) : Option (Int × Bool × Int) :=
  (M.f29 p0 ([] : List Int) ((([p1, p2] : List Int), ([p3] : List Int)) : S_keeper_numbers)) >>= fun v_1 =>
  (if (v_1 != 0) = true then (
  some (0, false, v_1))
  else (
  (shl 1 (p0.2.2.length : Int)) >>= fun v_3 =>
  (forS 0 v_3 (1099511627776 : Int) fun i_5 s_7 =>
    (M.f45 i_5 p0) >>= fun v_11 =>
    (if (decide (v_11 ≤ p3)) = true then (
    (M.f30 p0 i_5) >>= fun v_15 =>
    (idx v_15 p1) >>= fun v_17 =>
    (idx v_17 p2) >>= fun v_19 =>
    some (imin s_7 v_19))
    else (
    some s_7)) >>= fun y_14 =>
    some y_14) >>= fun s_7 =>
  (if (decide (1099511627776 ≤ s_7)) = true then (
  some (0, false, 0))
  else (
  some (s_7, true, 0)))))

end Go.Proofs.YtjlagmcdoobimaaGreatDoor.M
