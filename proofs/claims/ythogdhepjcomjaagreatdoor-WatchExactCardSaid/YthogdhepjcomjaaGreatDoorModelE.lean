/-
  Models of Go functions, written by program; nothing is claimed here.
-/
import Derived.Test.YthogdhepjcomjaaGreatDoorData
import Derived.Test.YthogdhepjcomjaaGreatDoorGivenM
namespace Go.Proofs.YthogdhepjcomjaaGreatDoor.M
open Go Go.Proofs.YthogdhepjcomjaaGreatDoor Go.Proofs.YthogdhepjcomjaaGreatDoor.Wh

/-- waterhour/watch.within -/
def f99 (p0 : Int) (p1 : Int) (p2 : Int) : Option Bool :=
  some ((decide (p1 ≤ p0)) && (decide (p0 ≤ p2)))

/-- waterhour/watch.matrixOf -/
def f121 (p0 : List (List Int)) : Option (Vector (Vector Int 8) 8) :=
  (forS 0 (p0.length : Int) (((Vector.replicate 8 (#v[0, 0, 0, 0, 0, 0, 0, 0] : Vector Int 8)) : Vector (Vector Int 8) 8) : (Vector (Vector Int 8) 8)) fun i_2 s_4 =>
    (idxA s_4 i_2) >>= fun v_8 =>
    (idx p0 i_2) >>= fun v_10 =>
    (setA s_4 i_2 (copyA v_8 v_10)) >>= fun z_12 =>
    some z_12) >>= fun s_4 =>
  some s_4

/-- (waterhour/watch.matrix).closed -/
def f122 (p0 : Vector (Vector Int 8) 8) (p1 : Int) : Option (Vector (Vector Int 8) 8) :=
  (forS 0 p1 (p0 : (Vector (Vector Int 8) 8)) fun i_3 s_5 =>
    (forS 0 p1 (s_5 : (Vector (Vector Int 8) 8)) fun i_9 s_11 =>
      (forS 0 p1 (s_11 : (Vector (Vector Int 8) 8)) fun i_15 s_17 =>
        (idxA s_17 i_9) >>= fun v_21 =>
        (idxA v_21 i_15) >>= fun v_23 =>
        (idxA s_17 i_9) >>= fun v_25 =>
        (idxA v_25 i_3) >>= fun v_27 =>
        (idxA s_17 i_3) >>= fun v_29 =>
        (idxA v_29 i_15) >>= fun v_31 =>
        (idxA s_17 i_9) >>= fun v_33 =>
        (idxA v_33 i_15) >>= fun _v_35 =>
        (setA v_33 i_15 (imin v_23 (wr (v_27 + v_31)))) >>= fun z_37 =>
        (setA s_17 i_9 z_37) >>= fun z_39 =>
        some z_39) >>= fun s_17 =>
      some s_17) >>= fun s_11 =>
    some s_11) >>= fun s_5 =>
  some s_5

/-- waterhour/watch.isTurn -/
def f123 (p0 : S_api_Turn) : Option Bool :=
  (M.f99 p0.1 0 7) >>= fun v_1 =>
  (guardO v_1 (M.f99 p0.2.1 0 7)) >>= fun v_3 =>
  (guardO (v_1 && v_3) (M.f99 p0.2.2.2.1 0 7)) >>= fun v_5 =>
  (guardO ((v_1 && v_3) && v_5) (M.f99 p0.2.2.1 0 16777216)) >>= fun v_7 =>
  (guardO (((v_1 && v_3) && v_5) && v_7) (M.f99 p0.2.2.2.2.1 0 16777216)) >>= fun v_9 =>
  (guardO ((((v_1 && v_3) && v_5) && v_7) && v_9) (M.f99 p0.2.2.2.2.2 0 10000)) >>= fun v_11 =>
  some (((((v_1 && v_3) && v_5) && v_7) && v_9) && v_11)

/-- waterhour/watch.Check -/
def f47 (p0 : S_api_Roster) : Option Int :=
  (M.f99 p0.1 1 8) >>= fun v_1 =>
  (guardO (!(!v_1)) (M.f99 p0.2.1 0 16777216)) >>= fun v_3 =>
  (guardO (!((!v_1) || (!v_3))) (M.f99 p0.2.2.1 0 16777216)) >>= fun v_5 =>
  (guardO (!((((!v_1) || (!v_3)) || (!v_5)) || (decide (p0.2.2.1 ≤ p0.2.1)))) (M.f99 (p0.2.2.2.1.length : Int) 1 8)) >>= fun v_7 =>
  (if ((((((!v_1) || (!v_3)) || (!v_5)) || (decide (p0.2.2.1 ≤ p0.2.1))) || (!v_7)) || (decide (24 < (p0.2.2.2.2.length : Int)))) = true then (
  some 70)
  else (
  (forM (ρ := Int) 0 (p0.2.2.2.1.length : Int) (() : Unit) fun i_9 _s_11 =>
    (idx p0.2.2.2.1 i_9) >>= fun v_15 =>
    (if ((v_15.length : Int) != (p0.2.2.2.1.length : Int)) = true then (
    some (.leave 70))
    else (
    (forM (ρ := Int) 0 (v_15.length : Int) (() : Unit) fun i_17 _s_19 =>
      (idx v_15 i_17) >>= fun v_23 =>
      (M.f99 v_23 (-1048576) 1048576) >>= fun v_25 =>
      (if ((!v_25) || ((i_9 == i_17) && (v_23 != 0))) = true then (
      some (.leave 70))
      else (
      some (.again ())))) >>= fun o_20 => Out.elim o_20 (fun _s_19 =>
      some (.again ())) (fun p_27 =>
      some (.leave p_27))))) >>= fun o_12 => Out.elim o_12 (fun _s_11 =>
    (M.f121 p0.2.2.2.1) >>= fun v_28 =>
    (M.f122 v_28 (p0.2.2.2.1.length : Int)) >>= fun v_30 =>
    (if (v_28 != v_30) = true then (
    some 70)
    else (
    (forM (ρ := Int) 0 (p0.2.2.2.2.length : Int) (() : Unit) fun i_32 _s_34 =>
      (idx p0.2.2.2.2 i_32) >>= fun v_38 =>
      (M.f123 v_38) >>= fun v_40 =>
      (if ((((!v_40) || (decide (p0.1 ≤ v_38.1))) || (decide ((p0.2.2.2.1.length : Int) ≤ v_38.2.1))) || (decide ((p0.2.2.2.1.length : Int) ≤ v_38.2.2.2.1))) = true then (
      some (.leave 70))
      else (
      some (.again ())))) >>= fun o_35 => Out.elim o_35 (fun _s_34 =>
      some 0) (fun p_42 =>
      some p_42)))) (fun p_43 =>
    some p_43)))

end Go.Proofs.YthogdhepjcomjaaGreatDoor.M

/-
  Models of Go functions, written by program; nothing is claimed here.
-/
namespace Go.Proofs.YthogdhepjcomjaaGreatDoor.M
open Go Go.Proofs.YthogdhepjcomjaaGreatDoor Go.Proofs.YthogdhepjcomjaaGreatDoor.Wh

/-- waterhour/watch.turns$1 -/
def f146 (p0 : Int) (c0 : S_api_Roster) : Option Bool :=
  (M.f99 p0 0 (wr ((c0.2.2.2.2.length : Int) - 1))) >>= fun v_1 =>
  some (!v_1)

/-- slices.IndexFunc[[]int,int] -/
def f119 (p0 : List Int) (p1 : (Int → Option Bool)) : Option Int :=
  (forM (ρ := Int) 0 (p0.length : Int) (() : Unit) fun i_1 _s_3 =>
    (idx p0 i_1) >>= fun v_7 =>
    (p1 v_7) >>= fun v_9 =>
    (if v_9 = true then (
    some (.leave i_1))
    else (
    some (.again ())))) >>= fun o_4 => Out.elim o_4 (fun _s_3 =>
    some (-1)) (fun p_11 =>
    some p_11)

/-- slices.ContainsFunc[[]int,int] -/
def f42 (p0 : List Int) (p1 : (Int → Option Bool)) : Option Bool :=
  (M.f119 p0 p1) >>= fun v_1 =>
  some (decide (0 ≤ v_1))

/-- waterhour/watch.turns -/
def f85 (p0 : S_api_Roster) (p1 : List Int) : Option Int :=
  (M.f47 p0) >>= fun v_1 =>
  (if (v_1 != 0) = true then (
  some v_1)
  else (
  (M.f42 p1 ((fun x0 => M.f146 x0 p0) : (Int → Option Bool))) >>= fun v_3 =>
  (if v_3 = true then (
  some 1)
  else (
  some 0))))

/-- waterhour/watch.lagOf -/
def f148 (p0 : S_api_Roster) (p1 : Int) (p2 : Int) (p3 : Int) (p4 : Int) : Option S_watch_lag :=
  (idx p0.2.2.2.1 p1) >>= fun v_2 =>
  (idx v_2 p3) >>= fun v_4 =>
  some (((wr ((wr (p4 - p2)) + v_4)), (p1 == p3)) : S_watch_lag)

/-- waterhour/watch.begin -/
def f92 (p0 : S_api_Roster) (p1 : Int) : Option S_watch_lag :=
  (idx p0.2.2.2.2 p1) >>= fun v_2 =>
  (M.f148 p0 0 p0.2.1 v_2.2.1 v_2.2.2.1) >>= fun v_4 =>
  some v_4

/-- (waterhour/watch.lag).never -/
def f93 (p0 : S_watch_lag) : Option Bool :=
  some (decide (p0.1 ≤ 0))

/-- waterhour/watch.Begins -/
def f36 (p0 : S_api_Roster) (p1 : Int) : Option (Bool × Int) :=
  (M.f85 p0 ([p1] : List Int)) >>= fun v_1 =>
  (if (v_1 != 0) = true then (
  some (false, v_1))
  else (
  (M.f92 p0 p1) >>= fun v_3 =>
  (M.f93 v_3) >>= fun v_5 =>
  some (v_5, 0)))

/-- waterhour/watch.meet -/
def f149 (p0 : S_api_Roster) (p1 : Int) (p2 : Int) : Option S_watch_lag :=
  (idx p0.2.2.2.2 p1) >>= fun v_2 =>
  (idx p0.2.2.2.2 p2) >>= fun v_4 =>
  (M.f148 p0 ((v_2 : S_api_Turn).2.2.2.1) ((v_2 : S_api_Turn).2.2.2.2.1) ((v_4 : S_api_Turn).2.1) ((v_4 : S_api_Turn).2.2.1)) >>= fun v_8 =>
  some v_8

/-- waterhour/watch.follows -/
def f95 (p0 : S_api_Roster) (p1 : Int) (p2 : Int) : Option Bool :=
  (guardO (p1 != p2) (idx p0.2.2.2.2 p1)) >>= fun v_1 =>
  (guardO (p1 != p2) (idx p0.2.2.2.2 p2)) >>= fun v_3 =>
  (guardO ((p1 != p2) && (v_1.1 == v_3.1)) (M.f149 p0 p1 p2)) >>= fun v_5 =>
  (guardO ((p1 != p2) && (v_1.1 == v_3.1)) (M.f93 v_5)) >>= fun v_7 =>
  some (((p1 != p2) && (v_1.1 == v_3.1)) && v_7)

/-- waterhour/watch.Meets -/
def f38 (p0 : S_api_Roster) (p1 : Int) (p2 : Int) : Option (Bool × Int) :=
  (M.f85 p0 ([p1, p2] : List Int)) >>= fun v_1 =>
  (if (v_1 != 0) = true then (
  some (false, v_1))
  else (
  (M.f95 p0 p1 p2) >>= fun v_3 =>
  some (v_3, 0)))

/-- waterhour/watch.end -/
def f102 (p0 : S_api_Roster) (p1 : Int) : Option S_watch_lag :=
  (idx p0.2.2.2.2 p1) >>= fun v_2 =>
  (M.f148 p0 v_2.2.2.2.1 v_2.2.2.2.2.1 0 p0.2.2.1) >>= fun v_4 =>
  some v_4

/-- waterhour/watch.Ends -/
def f37 (p0 : S_api_Roster) (p1 : Int) : Option (Bool × Int) :=
  (M.f85 p0 ([p1] : List Int)) >>= fun v_1 =>
  (if (v_1 != 0) = true then (
  some (false, v_1))
  else (
  (M.f102 p0 p1) >>= fun v_3 =>
  (M.f93 v_3) >>= fun v_5 =>
  some (v_5, 0)))

/-- waterhour/watch.isShown$1 -/
def f153 (p0 : Int) : Option Bool :=
  (M.f99 p0 (-33554432) 33554432) >>= fun v_1 =>
  some (!v_1)

/-- waterhour/watch.isShown -/
def f112 (p0 : S_api_Roster) (p1 : List Int) : Option Bool :=
  (guardO ((p1.length : Int) == (p0.2.2.2.1.length : Int)) (M.f42 p1 (fun x0 => M.f153 x0))) >>= fun v_1 =>
  some (((p1.length : Int) == (p0.2.2.2.1.length : Int)) && (!v_1))

/-- waterhour/watch.isMoment -/
def f113 (p0 : S_api_Roster) (p1 : List Int) : Option Bool :=
  (forM (ρ := Bool) 0 (p0.2.2.2.1.length : Int) (() : Unit) fun i_1 _s_3 =>
    (idx p0.2.2.2.1 i_1) >>= fun v_7 =>
    (forM (ρ := Bool) 0 (v_7.length : Int) (() : Unit) fun i_9 _s_11 =>
      (idx v_7 i_9) >>= fun v_15 =>
      (idx p1 i_1) >>= fun v_17 =>
      (idx p1 i_9) >>= fun v_19 =>
      (if (decide (v_15 < (wr (v_17 - v_19)))) = true then (
      some (.leave false))
      else (
      some (.again ())))) >>= fun o_12 => Out.elim o_12 (fun _s_11 =>
      some (.again ())) (fun p_21 =>
      some (.leave p_21))) >>= fun o_4 => Out.elim o_4 (fun _s_3 =>
    some true) (fun p_22 =>
    some p_22)

/-- waterhour/watch.guards -/
def f115 (p0 : S_api_Turn) (p1 : List Int) : Option Bool :=
  (idx p1 p0.2.1) >>= fun v_1 =>
  (guardO (decide (p0.2.2.1 ≤ v_1)) (idx p1 p0.2.2.2.1)) >>= fun v_3 =>
  some ((decide (p0.2.2.1 ≤ v_1)) && (decide (v_3 < p0.2.2.2.2.1)))

/-- waterhour/watch.Who -/
def f40 (p0 : S_api_Roster) (p1 : List Int) : Option ((List Int) × Int) :=
  (M.f47 p0) >>= fun v_1 =>
  (if (v_1 != 0) = true then (
  some (([] : List Int), v_1))
  else (
  (M.f112 p0 p1) >>= fun v_3 =>
  (if (!v_3) = true then (
  some (([] : List Int), 1))
  else (
  (M.f113 p0 p1) >>= fun v_5 =>
  (if (!v_5) = true then (
  some (([] : List Int), 61))
  else (
  (forS 0 (p0.2.2.2.2.length : Int) (([] : List Int) : (List Int)) fun i_7 s_9 =>
    (idx p0.2.2.2.2 i_7) >>= fun v_14 =>
    (M.f115 v_14 p1) >>= fun v_17 =>
    (if v_17 = true then (
    (app s_9 ([i_7] : List Int)) >>= fun z_22 =>
    some z_22)
    else (
    some s_9)) >>= fun y_20 =>
    some y_20) >>= fun s_9 =>
  some (s_9, 0)))))))

/-- waterhour/watch.cost -/
def f82 (p0 : S_api_Roster) (p1 : List Int) : Option Int :=
  (forS 0 (p1.length : Int) (0 : Int) fun i_1 s_3 =>
    (idx p1 i_1) >>= fun v_7 =>
    (idx p0.2.2.2.2 v_7) >>= fun v_9 =>
    some (wr (s_3 + v_9.2.2.2.2.2))) >>= fun s_3 =>
  some s_3

/-- slices.Index[[]int,int] -/
def f120 (p0 : List Int) (p1 : Int) : Option Int :=
  (forM (ρ := Int) 0 (p0.length : Int) (() : Unit) fun i_1 _s_3 =>
    (idx p0 i_1) >>= fun v_7 =>
    (if (p1 == v_7) = true then (
    some (.leave i_1))
    else (
    some (.again ())))) >>= fun o_4 => Out.elim o_4 (fun _s_3 =>
    some (-1)) (fun p_9 =>
    some p_9)

/-- slices.Contains[[]int,int] -/
def f44 (p0 : List Int) (p1 : Int) : Option Bool :=
  (M.f120 p0 p1) >>= fun v_1 =>
  some (decide (0 ≤ v_1))

/-- waterhour/watch.different -/
def f86 (p0 : List Int) : Option Bool :=
  (forM (ρ := Bool) 0 (p0.length : Int) (() : Unit) fun i_1 _s_3 =>
    (idx p0 i_1) >>= fun v_7 =>
    (cut p0 i_1) >>= fun z_9 =>
    (M.f44 z_9 v_7) >>= fun v_11 =>
    (if v_11 = true then (
    some (.leave false))
    else (
    some (.again ())))) >>= fun o_4 => Out.elim o_4 (fun _s_3 =>
    some true) (fun p_13 =>
    some p_13)

/-- waterhour/watch.Cost -/
def f53 (p0 : S_api_Roster) (p1 : List Int) : Option (Int × Int) :=
  (M.f85 p0 p1) >>= fun v_1 =>
  (if (v_1 != 0) = true then (
  some (0, v_1))
  else (
  (M.f86 p1) >>= fun v_3 =>
  (if (!v_3) = true then (
  some (0, 1))
  else (
  (M.f82 p0 p1) >>= fun v_5 =>
  some (v_5, 0)))))

end Go.Proofs.YthogdhepjcomjaaGreatDoor.M

/-
  Models of Go functions, written by program; nothing is claimed here.
-/
namespace Go.Proofs.YthogdhepjcomjaaGreatDoor.M
open Go Go.Proofs.YthogdhepjcomjaaGreatDoor Go.Proofs.YthogdhepjcomjaaGreatDoor.Wh

/-- waterhour/watch.gated -/
def f73 (p0 : S_api_Roster) (p1 : Int) : Option Int :=
  (M.f47 p0) >>= fun v_1 =>
  (if (v_1 != 0) = true then (
  some v_1)
  else (
  (M.f99 p1 0 (wr (p0.1 - 1))) >>= fun v_3 =>
  (if (!v_3) = true then (
  some 1)
  else (
  some 0))))

/-- cmp.isNaN[int] -/
def f162 (p0 : Int) : Option Bool :=
  some (p0 != p0)

/-- cmp.Compare[int] -/
def f142 (p0 : Int) (p1 : Int) : Option Int :=
  (M.f162 p0) >>= fun v_1 =>
  (M.f162 p1) >>= fun v_3 =>
  (if v_1 = true then (
  (if v_3 = true then (
  some 0)
  else (
  some (-1))))
  else (
  (if v_3 = true then (
  some 1)
  else (
  (if (decide (p0 < p1)) = true then (
  some (-1))
  else (
  (if (decide (p1 < p0)) = true then (
  some 1)
  else (
  some 0))))))))

/-- slices.Compare[[]int,int] -/
def f143 (p0 : List Int) (p1 : List Int) : Option Int :=
  (forM (ρ := Int) 0 (p0.length : Int) (() : Unit) fun i_1 _s_3 =>
    (idx p0 i_1) >>= fun v_7 =>
    (if (decide ((p1.length : Int) ≤ i_1)) = true then (
    some (.leave 1))
    else (
    (idx p1 i_1) >>= fun v_9 =>
    (M.f142 v_7 v_9) >>= fun v_11 =>
    (if (v_11 != 0) = true then (
    some (.leave v_11))
    else (
    some (.again ())))))) >>= fun o_4 => Out.elim o_4 (fun _s_3 =>
    (if (decide ((p0.length : Int) < (p1.length : Int))) = true then (
    some (-1))
    else (
    some 0))) (fun p_13 =>
    some p_13)

/-- cmp.Or[int] -/
def f141 (p0 : List Int) : Option Int :=
  (forM (ρ := Int) 0 (p0.length : Int) (() : Unit) fun i_1 _s_3 =>
    (idx p0 i_1) >>= fun v_7 =>
    (if (v_7 != 0) = true then (
    some (.leave v_7))
    else (
    some (.again ())))) >>= fun o_4 => Out.elim o_4 (fun _s_3 =>
    some 0) (fun p_9 =>
    some p_9)

/-- waterhour/watch.by$1 -/
def f140 (p0 : List Int) (p1 : List Int) (c0 : S_api_Roster) : Option Int :=
  (M.f82 c0 p0) >>= fun v_1 =>
  (M.f82 c0 p1) >>= fun v_3 =>
  (M.f142 v_1 v_3) >>= fun v_5 =>
  (M.f142 (p0.length : Int) (p1.length : Int)) >>= fun v_7 =>
  (M.f143 p0 p1) >>= fun v_9 =>
  (M.f141 ([v_5, v_7, v_9] : List Int)) >>= fun v_11 =>
  some v_11

/-- waterhour/watch.by -/
def f80 (p0 : S_api_Roster) : Option ((List Int) → (List Int) → Option Int) :=
  some ((fun x0 x1 => M.f140 x0 x1 p0) : ((List Int) → (List Int) → Option Int))

/-- waterhour/watch.ways$1 -/
def f144 (p0 : Int) (p1 : List Int) (c0 : List (NL Int)) (c1 : ((List Int) → (List Int) → Option Int)) : Option (Bool × (List (NL Int))) :=
  (idx c0 p0) >>= fun v_1 =>
  (guardO (!v_1.l.isEmpty) (idx c0 p0)) >>= fun v_3 =>
  (guardO (!v_1.l.isEmpty) (c1 v_3.l p1)) >>= fun v_5 =>
  (if ((!v_1.l.isEmpty) && (decide (v_5 ≤ 0))) = true then (
  some (false, c0))
  else (
  (idx c0 p0) >>= fun _v_7 =>
  (nlO p1) >>= fun m_11 =>
  (set1 c0 p0 m_11) >>= fun z_9 =>
  some (true, z_9)))

/-- waterhour/watch.own -/
def f90 (p0 : S_api_Roster) (p1 : Int) (p2 : (Int → Option Bool)) : Option (List Int) :=
  (forS 0 (p0.2.2.2.2.length : Int) (([] : List Int) : (List Int)) fun i_1 s_3 =>
    (idx p0.2.2.2.2 i_1) >>= fun v_8 =>
    (guardO (v_8.1 == p1) (p2 i_1)) >>= fun v_11 =>
    (if ((v_8.1 == p1) && v_11) = true then (
    (app s_3 ([i_1] : List Int)) >>= fun z_16 =>
    some z_16)
    else (
    some s_3)) >>= fun y_14 =>
    some y_14) >>= fun s_3 =>
  some s_3

/-- waterhour/watch.ways$2 -/
def f145 (_p0 : Int) : Option Bool :=
  some true

/-- waterhour/watch.ways -/
def f81 (fuel : Nat) (p0 : S_api_Roster) (p1 : Int) (p2 : ((List Int) → (List Int) → Option Int)) : Option (List (NL Int)) :=
  (mk (p0.2.2.2.2.length : Int) (⟨[]⟩ : NL Int)) >>= fun q_1 =>
  (M.f90 p0 p1 (fun x0 => M.f145 x0)) >>= fun v_5 =>
  (forS 0 (v_5.length : Int) (q_1 : (List (NL Int))) fun i_7 s_9 =>
    (idx v_5 i_7) >>= fun v_14 =>
    (M.f92 p0 v_14) >>= fun v_16 =>
    (M.f93 v_16) >>= fun v_18 =>
    (if v_18 = true then (
    (M.f144 v_14 ([v_14] : List Int) s_9 p2) >>= fun z_23 =>
    some z_23.2)
    else (
    some s_9)) >>= fun y_21 =>
    some y_21) >>= fun s_9 =>
  (loopM (ρ := (List (NL Int))) (fun s_26 : Bool × (List (NL Int)) =>
    (if s_26.1 = true then (
    (forS 0 (v_5.length : Int) ((false, s_26.2) : Bool × (List (NL Int))) fun i_31 s_33 =>
      (idx v_5 i_31) >>= fun v_38 =>
      (forS 0 (v_5.length : Int) ((s_33.1, s_33.2) : Bool × (List (NL Int))) fun i_40 s_42 =>
        (idx v_5 i_40) >>= fun v_47 =>
        (idx s_42.2 v_38) >>= fun v_49 =>
        (guardO (!v_49.l.isEmpty) (M.f95 p0 v_38 v_47)) >>= fun v_51 =>
        (guardO ((!v_49.l.isEmpty) && v_51) (M.f44 v_49.l v_47)) >>= fun v_53 =>
        (guardO (((!v_49.l.isEmpty) && v_51) && (!v_53)) (fullB v_49.l (v_49.l.length : Int) (v_49.l.length : Int))) >>= fun z_55 =>
        (guardO (((!v_49.l.isEmpty) && v_51) && (!v_53)) (appF z_55 ([v_47] : List Int))) >>= fun z_57 =>
        ((if (((!v_49.l.isEmpty) && v_51) && (!v_53)) = true then M.f144 v_47 z_57 s_42.2 p2 else some (default, s_42.2))) >>= fun z_59 =>
        (if ((((!v_49.l.isEmpty) && v_51) && (!v_53)) && z_59.1) = true then (
        some true)
        else (
        some s_42.1)) >>= fun y_63 =>
        some (y_63, z_59.2)) >>= fun s_42 =>
      some (s_42.1, s_42.2)) >>= fun s_33 =>
    some (.again (s_33.1, s_33.2)))
    else (
    some (.leave s_26.2)))) fuel ((true, s_9) : Bool × (List (NL Int)))) >>= fun o_27 =>
  (fun p_64 =>
    some p_64) o_27

/-- waterhour/watch.plan -/
def f79 (fuel : Nat) (p0 : S_api_Roster) (p1 : Int) (p2 : ((List Int) → (List Int) → Option Int)) : Option ((List Int) × Bool) :=
  (M.f81 fuel p0 p1 p2) >>= fun v_1 =>
  (forS 0 (v_1.length : Int) ((⟨[]⟩ : NL Int) : (NL Int)) fun i_3 s_5 =>
    (idx v_1 i_3) >>= fun v_9 =>
    (guardO (!v_9.l.isEmpty) (M.f102 p0 i_3)) >>= fun v_11 =>
    (guardO (!v_9.l.isEmpty) (M.f93 v_11)) >>= fun v_13 =>
    (guardO (((!v_9.l.isEmpty) && v_13) && (!(s_5.l.isEmpty))) (p2 v_9.l s_5.l)) >>= fun v_15 =>
    (if (((!v_9.l.isEmpty) && v_13) && ((s_5.l.isEmpty) || (decide (v_15 < 0)))) = true then (
    some v_9)
    else (
    some s_5)) >>= fun y_18 =>
    some y_18) >>= fun s_5 =>
  some (s_5.l, (!s_5.l.isEmpty))

/-- waterhour/watch.short$1 -/
def f157 (p0 : List Int) (p1 : List Int) (c0 : ((List Int) → (List Int) → Option Int)) : Option Int :=
  (M.f142 (p0.length : Int) (p1.length : Int)) >>= fun v_1 =>
  (c0 p0 p1) >>= fun v_3 =>
  (M.f141 ([v_1, v_3] : List Int)) >>= fun v_5 =>
  some v_5

/-- waterhour/watch.short -/
def f130 (p0 : S_api_Roster) : Option ((List Int) → (List Int) → Option Int) :=
  (M.f80 p0) >>= fun v_1 =>
  some ((fun x0 x1 => M.f157 x0 x1 v_1) : ((List Int) → (List Int) → Option Int))

/-- waterhour/watch.Prices -/
def f22 (fuel : Nat) (p0 : S_api_Roster) (p1 : Int) : Option ((List Int) × Int) :=
  (M.f73 p0 p1) >>= fun v_1 =>
  (if (v_1 != 0) = true then (
  some (([] : List Int), v_1))
  else (
  (M.f80 p0) >>= fun v_3 =>
  (M.f79 fuel p0 p1 v_3) >>= fun v_5 =>
  (if (!v_5.2) = true then (
  some (([] : List Int), 4))
  else (
  (mk (p0.2.2.2.2.length : Int) (0 : Int)) >>= fun q_7 =>
  (M.f80 p0) >>= fun v_10 =>
  (M.f81 fuel p0 p1 v_10) >>= fun v_12 =>
  (forS 0 (v_12.length : Int) (q_7 : (List Int)) fun i_14 s_16 =>
    (idx v_12 i_14) >>= fun v_20 =>
    (idx p0.2.2.2.2 i_14) >>= fun v_22 =>
    (if (v_22.1 != p1) = true then (
    some s_16)
    else (
    (M.f82 p0 v_5.1) >>= fun v_24 =>
    (idx s_16 i_14) >>= fun _v_26 =>
    (set1 s_16 i_14 v_24) >>= fun z_28 =>
    (if (!v_20.l.isEmpty) = true then (
    (idx z_28 i_14) >>= fun v_32 =>
    (M.f82 p0 v_20.l) >>= fun v_34 =>
    (idx z_28 i_14) >>= fun _v_36 =>
    (set1 z_28 i_14 (imin v_32 v_34)) >>= fun z_38 =>
    some z_38)
    else (
    some z_28)) >>= fun y_31 =>
    some y_31))) >>= fun s_16 =>
  some (s_16, 0)))))

end Go.Proofs.YthogdhepjcomjaaGreatDoor.M

/-
  Models of Go functions, written by program; nothing is claimed here.
-/
namespace Go.Proofs.YthogdhepjcomjaaGreatDoor.M
open Go Go.Proofs.YthogdhepjcomjaaGreatDoor Go.Proofs.YthogdhepjcomjaaGreatDoor.Wh

/-- waterhour/watch.reached$1 -/
def f133 : Nat → Int → (List (Int × Bool)) → Int → S_api_Roster → Option (List (Int × Bool))
  | 0, _, _, _, _ => none
  | fuel + 1, p0, c0, c1, c2 =>
    (if ((mget c0 p0) || (p0 == c1)) = true then (
    some c0)
    else (
    (forS 0 (c2.2.2.2.2.length : Int) ((mset c0 p0 true) : (List (Int × Bool))) fun i_1 s_3 =>
      (M.f95 c2 p0 i_1) >>= fun v_7 =>
      (if v_7 = true then (
      (f133 fuel i_1 s_3 c1 c2) >>= fun z_11 =>
      some z_11)
      else (
      some s_3)) >>= fun y_10 =>
      some y_10) >>= fun s_3 =>
    some s_3))

/-- waterhour/watch.reached$2 -/
def f134 (p0 : Int) (c0 : S_api_Roster) : Option Bool :=
  (M.f92 c0 p0) >>= fun v_1 =>
  (M.f93 v_1) >>= fun v_3 =>
  some v_3

/-- waterhour/watch.reached$3 -/
def f135 (p0 : Int) (c0 : List (Int × Bool)) : Option Bool :=
  some (mget c0 p0)

/-- waterhour/watch.reached -/
def f74 (fuel : Nat) (p0 : S_api_Roster) (p1 : Int) (p2 : Int) : Option (List Int) :=
  (M.f90 p0 p1 ((fun x0 => M.f134 x0 p0) : (Int → Option Bool))) >>= fun v_3 =>
  (forS 0 (v_3.length : Int) (([] : List (Int × Bool)) : (List (Int × Bool))) fun i_5 s_7 =>
    (idx v_3 i_5) >>= fun v_11 =>
    (M.f133 fuel v_11 s_7 p2 p0) >>= fun z_13 =>
    some z_13) >>= fun s_7 =>
  (M.f90 p0 p1 (fun (a_ : Int) => M.f135 a_ s_7)) >>= fun z_16 =>
  some z_16

/-- waterhour/watch.late$1 -/
def f137 (p0 : Int) (c0 : S_api_Roster) : Option Bool :=
  (M.f102 c0 p0) >>= fun v_1 =>
  (M.f93 v_1) >>= fun v_3 =>
  some v_3

/-- waterhour/watch.late -/
def f77 (p0 : S_api_Roster) (p1 : List Int) : Option Bool :=
  (M.f42 p1 ((fun x0 => M.f137 x0 p0) : (Int → Option Bool))) >>= fun v_1 =>
  some v_1

/-- waterhour/watch.bare$1 -/
def f150 (p0 : Int) (c0 : S_api_Roster) (c1 : Int) : Option Bool :=
  (idx c0.2.2.2.2 p0) >>= fun v_1 =>
  some (v_1.1 != c1)

/-- waterhour/watch.bare -/
def f104 (p0 : S_api_Roster) (p1 : Int) (p2 : List Int) : Option Int :=
  (M.f73 p0 p1) >>= fun v_1 =>
  (if (v_1 != 0) = true then (
  some v_1)
  else (
  (M.f85 p0 p2) >>= fun v_3 =>
  (guardO (!(v_3 != 0)) (M.f86 p2)) >>= fun v_5 =>
  (guardO (!((v_3 != 0) || (!v_5))) (M.f42 p2 ((fun x0 => M.f150 x0 p0 p1) : (Int → Option Bool)))) >>= fun v_7 =>
  (if (((v_3 != 0) || (!v_5)) || v_7) = true then (
  some 1)
  else (
  (if (decide (8 < (p2.length : Int))) = true then (
  some 2)
  else (
  some 0))))))

/-- waterhour/watch.isPlan$1 -/
def f154 (p0 : Int) (c0 : S_api_Roster) (c1 : Int) : Option Bool :=
  (idx c0.2.2.2.2 p0) >>= fun v_1 =>
  some (v_1.1 != c1)

/-- waterhour/watch.isPlan$2 -/
def f155 (p0 : S_watch_lag) (c0 : List S_watch_lag) : Option (List S_watch_lag) :=
  (app c0 ([p0] : List S_watch_lag)) >>= fun z_1 =>
  some z_1

/-- waterhour/watch.lags -/
def f127 {σ : Type} (fuel : Nat) (p0 : S_api_Roster) (p1 : List Int) (p2 : σ → S_watch_lag → Option σ) (s0 : σ) : Option σ :=
  (idx p1 0) >>= fun v_1 =>
  (M.f92 p0 v_1) >>= fun v_3 =>
  (p2 s0 v_3) >>= fun z_5 =>
  (loopM (ρ := σ) (fun s_8 : Int × σ =>
    (if (decide (s_8.1 < (p1.length : Int))) = true then (
    (idx p1 (wr (s_8.1 - 1))) >>= fun v_13 =>
    (idx p1 s_8.1) >>= fun v_15 =>
    (M.f149 p0 v_13 v_15) >>= fun v_17 =>
    (p2 s_8.2 v_17) >>= fun z_19 =>
    some (.again ((wr (s_8.1 + 1)), z_19)))
    else (
    some (.leave s_8.2)))) fuel ((1, z_5) : Int × σ)) >>= fun o_9 =>
  (fun p_29 =>
    (idx p1 (wr ((p1.length : Int) - 1))) >>= fun v_30 =>
    (M.f102 p0 v_30) >>= fun v_32 =>
    (p2 p_29 v_32) >>= fun z_34 =>
    some z_34) o_9

/-- waterhour/watch.every[waterhour/watch.lag]$1 -/
def f166 (p0 : S_watch_lag) (c0 : (S_watch_lag → Option Bool)) : Option Bool :=
  (c0 p0) >>= fun v_1 =>
  some (!v_1)

/-- slices.IndexFunc[[]waterhour/watch.lag,waterhour/watch.lag] -/
def f170 (p0 : List S_watch_lag) (p1 : (S_watch_lag → Option Bool)) : Option Int :=
  (forM (ρ := Int) 0 (p0.length : Int) (() : Unit) fun i_1 _s_3 =>
    (idx p0 i_1) >>= fun v_7 =>
    (p1 v_7) >>= fun v_9 =>
    (if v_9 = true then (
    some (.leave i_1))
    else (
    some (.again ())))) >>= fun o_4 => Out.elim o_4 (fun _s_3 =>
    some (-1)) (fun p_11 =>
    some p_11)

/-- slices.ContainsFunc[[]waterhour/watch.lag,waterhour/watch.lag] -/
def f165 (p0 : List S_watch_lag) (p1 : (S_watch_lag → Option Bool)) : Option Bool :=
  (M.f170 p0 p1) >>= fun v_1 =>
  some (decide (0 ≤ v_1))

/-- waterhour/watch.every[waterhour/watch.lag] -/
def f156 (p0 : List S_watch_lag) (p1 : (S_watch_lag → Option Bool)) : Option Bool :=
  (M.f165 p0 ((fun x0 => M.f166 x0 p1) : (S_watch_lag → Option Bool))) >>= fun v_1 =>
  some (!v_1)

/-- waterhour/watch.isPlan -/
def f118 (fuel : Nat) (p0 : S_api_Roster) (p1 : Int) (p2 : List Int) : Option Bool :=
  (guardO (!((p2.length : Int) == 0)) (M.f86 p2)) >>= fun v_1 =>
  (guardO (!(((p2.length : Int) == 0) || (!v_1))) (M.f85 p0 p2)) >>= fun v_3 =>
  (if ((((p2.length : Int) == 0) || (!v_1)) || (v_3 != 0)) = true then (
  some false)
  else (
  (M.f42 p2 ((fun x0 => M.f154 x0 p0 p1) : (Int → Option Bool))) >>= fun v_5 =>
  (if v_5 = true then (
  some false)
  else (
  (M.f127 fuel p0 p2 (fun (s_ : List S_watch_lag) (a_ : S_watch_lag) => M.f155 a_ s_) ([] : List S_watch_lag)) >>= fun z_8 =>
  (M.f156 (z_8 : List S_watch_lag) (fun x0 => M.f93 x0)) >>= fun v_11 =>
  some v_11))))

/-- waterhour/watch.Spare$1 -/
def f128 (p0 : S_watch_lag) (c0 : Int) : Option Int :=
  (if (!p0.2) = true then (
  some (imin c0 (wr (0 - p0.1))))
  else (
  some c0)) >>= fun y_2 =>
  some y_2

/-- waterhour/watch.Spare -/
def f57 (fuel : Nat) (p0 : S_api_Roster) (p1 : Int) (p2 : List Int) : Option (Int × Int) :=
  (M.f73 p0 p1) >>= fun v_1 =>
  (if (v_1 != 0) = true then (
  some (0, v_1))
  else (
  (M.f118 fuel p0 p1 p2) >>= fun v_3 =>
  (if (!v_3) = true then (
  some (0, 71))
  else (
  (M.f127 fuel p0 p2 (fun (s_ : Int) (a_ : S_watch_lag) => M.f128 a_ s_) (1048576 : Int)) >>= fun z_6 =>
  some (z_6, 0)))))

/-- waterhour/watch.CheckBare$1 -/
def f114 (p0 : Int) (c0 : S_api_Roster) (c1 : List Int) : Option Bool :=
  (idx c0.2.2.2.2 p0) >>= fun v_1 =>
  (M.f115 v_1 c1) >>= fun v_3 =>
  some v_3

/-- waterhour/watch.CheckBare -/
def f32 (p0 : S_api_Roster) (p1 : Int) (p2 : List Int) (p3 : List Int) : Option Int :=
  (M.f104 p0 p1 p2) >>= fun v_1 =>
  (if (v_1 != 0) = true then (
  some v_1)
  else (
  (M.f112 p0 p3) >>= fun v_3 =>
  (if (!v_3) = true then (
  some 1)
  else (
  (M.f113 p0 p3) >>= fun v_5 =>
  (guardO (!(!v_5)) (idx p3 0)) >>= fun v_7 =>
  (guardO (!(!v_5)) (M.f99 v_7 p0.2.1 (wr (p0.2.2.1 - 1)))) >>= fun v_9 =>
  (guardO (!((!v_5) || (!v_9))) (M.f42 p2 ((fun x0 => M.f114 x0 p0 p3) : (Int → Option Bool)))) >>= fun v_11 =>
  (if (((!v_5) || (!v_9)) || v_11) = true then (
  some 61)
  else (
  some 0))))))

/-- waterhour/watch.CheckPlan -/
def f35 (fuel : Nat) (p0 : S_api_Roster) (p1 : Int) (p2 : List Int) : Option Int :=
  (M.f73 p0 p1) >>= fun v_1 =>
  (if (v_1 != 0) = true then (
  some v_1)
  else (
  (M.f118 fuel p0 p1 p2) >>= fun v_3 =>
  (if (!v_3) = true then (
  some 71)
  else (
  some 0))))

/-- cmp.Less[int] -/
def f147 (p0 : Int) (p1 : Int) : Option Bool :=
  (M.f162 p0) >>= fun v_1 =>
  (guardO v_1 (M.f162 p1)) >>= fun v_3 =>
  some ((v_1 && (!v_3)) || (decide (p0 < p1)))

/-- slices.IsSorted[[]int,int] -/
def f87 (fuel : Nat) (p0 : List Int) : Option Bool :=
  (loopM (ρ := (Unit ⊕ Bool)) (fun s_1 : Int =>
    (if (decide (0 < s_1)) = true then (
    (idx p0 s_1) >>= fun v_5 =>
    (idx p0 (wr (s_1 - 1))) >>= fun v_7 =>
    (M.f147 v_5 v_7) >>= fun v_9 =>
    (if v_9 = true then (
    some (.leave (.inr false)))
    else (
    some (.again (wr (s_1 - 1))))))
    else (
    some (.leave (.inl ()))))) fuel ((wr ((p0.length : Int) - 1)) : Int)) >>= fun o_2 =>
  (fun x_ => sumE x_ (fun _p_11 =>
    some true) (fun p_12 =>
    some p_12)) o_2

/-- waterhour/watch.CheckGap$1 -/
def f88 (p0 : Int) (c0 : S_api_Roster) (c1 : Int) : Option Bool :=
  (idx c0.2.2.2.2 p0) >>= fun v_1 =>
  some (v_1.1 != c1)

/-- waterhour/watch.CheckGap$2 -/
def f89 (p0 : Int) (c0 : List Int) : Option Bool :=
  (M.f44 c0 p0) >>= fun v_1 =>
  some v_1

/-- waterhour/watch.CheckGap$3$1 -/
def f94 (p0 : Int) (c0 : S_api_Roster) (c1 : Int) : Option Bool :=
  (M.f95 c0 p0 c1) >>= fun v_1 =>
  some v_1

/-- waterhour/watch.CheckGap$3 -/
def f91 (p0 : Int) (c0 : (Int → Option Bool)) (c1 : S_api_Roster) (c2 : List Int) : Option Bool :=
  (c0 p0) >>= fun v_1 =>
  (guardO (!v_1) (M.f92 c1 p0)) >>= fun v_3 =>
  (guardO (!v_1) (M.f93 v_3)) >>= fun v_5 =>
  (guardO ((!v_1) && (!v_5)) (M.f42 c2 ((fun x0 => M.f94 x0 c1 p0) : (Int → Option Bool)))) >>= fun v_7 =>
  some ((!v_1) && (v_5 || v_7))

/-- waterhour/watch.CheckGap -/
def f25 (fuel : Nat) (p0 : S_api_Roster) (p1 : Int) (p2 : List Int) : Option Int :=
  (M.f73 p0 p1) >>= fun v_1 =>
  (if (v_1 != 0) = true then (
  some v_1)
  else (
  (M.f85 p0 p2) >>= fun v_3 =>
  (guardO (!(v_3 != 0)) (M.f86 p2)) >>= fun v_5 =>
  (guardO (!((v_3 != 0) || (!v_5))) (M.f87 fuel p2)) >>= fun v_7 =>
  (guardO (!(((v_3 != 0) || (!v_5)) || (!v_7))) (M.f42 p2 ((fun x0 => M.f88 x0 p0 p1) : (Int → Option Bool)))) >>= fun v_9 =>
  (if ((((v_3 != 0) || (!v_5)) || (!v_7)) || v_9) = true then (
  some 1)
  else (
  (M.f90 p0 p1 ((fun x0 => M.f91 x0 ((fun x0 => M.f89 x0 p2) : (Int → Option Bool)) p0 p2) : (Int → Option Bool))) >>= fun v_11 =>
  (M.f77 p0 p2) >>= fun v_13 =>
  (if (v_13 || (decide (0 < (v_11.length : Int)))) = true then (
  some 32)
  else (
  some 0))))))

/-- waterhour/watch.CheckPrices$1 -/
def f100 (p0 : Int) : Option Bool :=
  (M.f99 p0 0 1048576) >>= fun v_1 =>
  some (!v_1)

/-- waterhour/watch.CheckPrices$2$1 -/
def f103 (p0 : Int) (c0 : S_api_Roster) (c1 : Int) (c2 : List Int) : Option Bool :=
  (M.f95 c0 p0 c1) >>= fun v_1 =>
  (guardO v_1 (idx c2 c1)) >>= fun v_3 =>
  (guardO v_1 (idx c2 p0)) >>= fun v_5 =>
  (guardO v_1 (idx c0.2.2.2.2 c1)) >>= fun v_7 =>
  some (v_1 && (decide ((wr (v_5 + v_7.2.2.2.2.2)) < v_3)))

/-- waterhour/watch.CheckPrices$2 -/
def f101 (p0 : Int) (c0 : S_api_Roster) (c1 : List Int) (c2 : Int) (c3 : Int) : Option Bool :=
  (M.f92 c0 p0) >>= fun v_1 =>
  (M.f93 v_1) >>= fun v_3 =>
  (guardO v_3 (idx c1 p0)) >>= fun v_5 =>
  (guardO v_3 (idx c0.2.2.2.2 p0)) >>= fun v_7 =>
  (guardO (!(v_3 && (decide (v_7.2.2.2.2.2 < v_5)))) (M.f102 c0 p0)) >>= fun v_9 =>
  (guardO (!(v_3 && (decide (v_7.2.2.2.2.2 < v_5)))) (M.f93 v_9)) >>= fun v_11 =>
  (guardO ((!(v_3 && (decide (v_7.2.2.2.2.2 < v_5)))) && v_11) (idx c1 p0)) >>= fun v_13 =>
  (guardO (!((v_3 && (decide (v_7.2.2.2.2.2 < v_5))) || (v_11 && (decide (v_13 < c2))))) (M.f90 c0 c3 ((fun x0 => M.f103 x0 c0 p0 c1) : (Int → Option Bool)))) >>= fun v_15 =>
  some (((v_3 && (decide (v_7.2.2.2.2.2 < v_5))) || (v_11 && (decide (v_13 < c2)))) || (decide (0 < (v_15.length : Int))))

/-- waterhour/watch.CheckPrices -/
def f27 (p0 : S_api_Roster) (p1 : Int) (p2 : Int) (p3 : List Int) : Option Int :=
  (M.f73 p0 p1) >>= fun v_1 =>
  (if (v_1 != 0) = true then (
  some v_1)
  else (
  (M.f99 p2 0 1048576) >>= fun v_3 =>
  (guardO (!((!v_3) || ((p3.length : Int) != (p0.2.2.2.2.length : Int)))) (M.f42 p3 (fun x0 => M.f100 x0))) >>= fun v_5 =>
  (if (((!v_3) || ((p3.length : Int) != (p0.2.2.2.2.length : Int))) || v_5) = true then (
  some 1)
  else (
  (M.f90 p0 p1 ((fun x0 => M.f101 x0 p0 p3 p2 p1) : (Int → Option Bool))) >>= fun v_7 =>
  (if (decide (0 < (v_7.length : Int))) = true then (
  some 32)
  else (
  some 0))))))

end Go.Proofs.YthogdhepjcomjaaGreatDoor.M

/-
  Models of Go functions, written by program; nothing is claimed here.
-/
namespace Go.Proofs.YthogdhepjcomjaaGreatDoor.M
open Go Go.Proofs.YthogdhepjcomjaaGreatDoor Go.Proofs.YthogdhepjcomjaaGreatDoor.Wh

/-- waterhour/waterhourlaw07.example -/
def f71 (p0 : Int) : Option S_api_Roster :=
  (cut ([((0, 1, 95, 0, 150, 4) : S_api_Turn), ((0, 0, 145, 1, 170, 3) : S_api_Turn), ((0, 1, 160, 1, 205, 2) : S_api_Turn), ((0, 0, 100, 0, 200, 11) : S_api_Turn)] : List S_api_Turn) p0) >>= fun z_2 =>
  some ((1, 100, 200, ([([0, 5] : List Int), ([3, 0] : List Int)] : List (List Int)), z_2) : S_api_Roster)

/-- waterhour/watch.Plan -/
def f34 (fuel : Nat) (p0 : S_api_Roster) (p1 : Int) : Option ((List Int) × Bool × Int) :=
  (M.f73 p0 p1) >>= fun v_1 =>
  (if (v_1 != 0) = true then (
  some (([] : List Int), false, v_1))
  else (
  (M.f80 p0) >>= fun v_3 =>
  (M.f79 fuel p0 p1 v_3) >>= fun v_5 =>
  some (v_5.1, v_5.2, 0)))

/-- waterhour/watch.Fewest -/
def f59 (fuel : Nat) (p0 : S_api_Roster) (p1 : Int) : Option ((List Int) × Bool × Int) :=
  (M.f73 p0 p1) >>= fun v_1 =>
  (if (v_1 != 0) = true then (
  some (([] : List Int), false, v_1))
  else (
  (M.f130 p0) >>= fun v_3 =>
  (M.f79 fuel p0 p1 v_3) >>= fun v_5 =>
  some (v_5.1, v_5.2, 0)))

/-- waterhour/watch.Reach -/
def f18 (fuel : Nat) (p0 : S_api_Roster) (p1 : Int) : Option ((List Int) × Int) :=
  (M.f73 p0 p1) >>= fun v_1 =>
  (if (v_1 != 0) = true then (
  some (([] : List Int), v_1))
  else (
  (M.f74 fuel p0 p1 (-1)) >>= fun v_3 =>
  some (v_3, 0)))

/-- waterhour/watch.Gap -/
def f20 (fuel : Nat) (p0 : S_api_Roster) (p1 : Int) : Option ((List Int) × Bool × Int) :=
  (M.f18 fuel p0 p1) >>= fun v_1 =>
  (guardO (!(v_1.2 != 0)) (M.f77 p0 v_1.1)) >>= fun v_3 =>
  (if ((v_1.2 != 0) || v_3) = true then (
  some (([] : List Int), false, v_1.2))
  else (
  some (v_1.1, true, 0)))

/-- (waterhour/watch.bounds).moment -/
def f152 (p0 : S_watch_bounds) (p1 : S_api_Roster) : Option ((List Int) × Bool) :=
  (forM (ρ := ((List Int) × Bool)) 0 (p1.2.2.2.1.length : Int) (([] : List Int) : (List Int)) fun i_1 s_3 =>
    (forS 0 (p1.2.2.2.1.length : Int) ((-33554432) : Int) fun i_8 s_10 =>
      (idx p1.2.2.2.1 i_8) >>= fun v_14 =>
      (idx p0.1 i_8) >>= fun v_16 =>
      (idx v_14 i_1) >>= fun v_18 =>
      some (imax s_10 (wr (v_16 - v_18)))) >>= fun s_10 =>
    (idx p0.2 i_1) >>= fun v_20 =>
    (if (decide (v_20 < s_10)) = true then (
    some (.leave (([] : List Int), false)))
    else (
    (app s_3 ([s_10] : List Int)) >>= fun z_22 =>
    some (.again z_22)))) >>= fun o_4 => Out.elim o_4 (fun s_3 =>
    some (s_3, true)) (fun p_25 =>
    some (p_25.1, p_25.2))

/-- waterhour/watch.idle -/
def f106 : Nat → S_api_Roster → (List Int) → S_watch_bounds → Option ((List Int) × Bool)
  | 0, _, _, _ => none
  | fuel + 1, p0, p1, p2 =>
    (if ((p1.length : Int) == 0) = true then (
    (M.f152 p2 p0) >>= fun v_1 =>
    some (v_1.1, v_1.2))
    else (
    (idx p1 0) >>= fun v_3 =>
    (idx p0.2.2.2.2 v_3) >>= fun v_5 =>
    (M.f45 p2.2) >>= fun m_8 =>
    (idx m_8 ((v_5 : S_api_Turn).2.1)) >>= fun v_13 =>
    (idx m_8 ((v_5 : S_api_Turn).2.1)) >>= fun _v_15 =>
    (set1 m_8 ((v_5 : S_api_Turn).2.1) (imin v_13 (wr ((v_5 : S_api_Turn).2.2.1 - 1)))) >>= fun z_17 =>
    (cutF p1 1) >>= fun z_19 =>
    (f106 fuel p0 z_19 ((p2.1, z_17) : S_watch_bounds)) >>= fun v_21 =>
    (if v_21.2 = true then (
    some (v_21.1, true))
    else (
    (M.f45 p2.1) >>= fun m_23 =>
    (idx m_23 ((v_5 : S_api_Turn).2.2.2.1)) >>= fun v_27 =>
    (idx m_23 ((v_5 : S_api_Turn).2.2.2.1)) >>= fun _v_29 =>
    (set1 m_23 ((v_5 : S_api_Turn).2.2.2.1) (imax v_27 ((v_5 : S_api_Turn).2.2.2.2.1))) >>= fun z_31 =>
    (cutF p1 1) >>= fun z_33 =>
    (f106 fuel p0 z_33 ((z_31, p2.2) : S_watch_bounds)) >>= fun v_35 =>
    some (v_35.1, v_35.2)))))

/-- waterhour/watch.Bare -/
def f29 (fuel : Nat) (p0 : S_api_Roster) (p1 : Int) (p2 : List Int) : Option ((List Int) × Bool × Int) :=
  (M.f104 p0 p1 p2) >>= fun v_1 =>
  (if (v_1 != 0) = true then (
  some (([] : List Int), false, v_1))
  else (
  (M.f105 ([(-67108864)] : List Int) (p0.2.2.2.1.length : Int)) >>= fun m_3 =>
  (M.f105 ([67108864] : List Int) (p0.2.2.2.1.length : Int)) >>= fun m_7 =>
  (idx m_3 0) >>= fun _v_12 =>
  (set1 m_3 0 p0.2.1) >>= fun z_14 =>
  (idx m_7 0) >>= fun _v_16 =>
  (set1 m_7 0 (wr (p0.2.2.1 - 1))) >>= fun z_18 =>
  (M.f106 fuel p0 p2 ((z_14, z_18) : S_watch_bounds)) >>= fun v_20 =>
  some (v_20.1, v_20.2, 0)))

/-- waterhour/watch.Print -/
def f72 (p0 : S_api_Turn) : Option (ByteArray × Int) :=
  (M.f123 p0) >>= fun v_1 =>
  (if (!v_1) = true then (
  some ((⟨#[]⟩ : ByteArray), 1))
  else (
  (forS 0 (([p0.1, p0.2.1, p0.2.2.1, p0.2.2.2.1, p0.2.2.2.2.1, p0.2.2.2.2.2] : List Int).length : Int) (([] : List ByteArray) : (List ByteArray)) fun i_3 s_5 =>
    (idx ([p0.1, p0.2.1, p0.2.2.1, p0.2.2.2.1, p0.2.2.2.2.1, p0.2.2.2.2.2] : List Int) i_3) >>= fun v_10 =>
    (M.f131 v_10) >>= fun v_12 =>
    (app s_5 ([v_12] : List ByteArray)) >>= fun z_14 =>
    some z_14) >>= fun s_5 =>
  (M.f132 s_5 (⟨#[32]⟩ : ByteArray)) >>= fun v_17 =>
  some (v_17, 0)))

/-- slices.Equal[[]int,int] -/
def f24 (p0 : List Int) (p1 : List Int) : Option Bool :=
  (if ((p0.length : Int) != (p1.length : Int)) = true then (
  some false)
  else (
  (forM (ρ := Bool) 0 (p0.length : Int) (() : Unit) fun i_1 _s_3 =>
    (idx p0 i_1) >>= fun v_7 =>
    (idx p1 i_1) >>= fun v_9 =>
    (if (v_7 != v_9) = true then (
    some (.leave false))
    else (
    some (.again ())))) >>= fun o_4 => Out.elim o_4 (fun _s_3 =>
    some true) (fun p_11 =>
    some p_11)))

/-- waterhour/waterhourlaw07.sane -/
def f16 (fuel : Nat)  : Option Bool :=
  (M.f71 4) >>= fun v_1 =>
  (M.f36 v_1 0) >>= fun v_3 =>
  (M.f38 v_1 0 2) >>= fun v_5 =>
  (M.f37 v_1 1) >>= fun v_7 =>
  (M.f40 v_1 ([149, 150] : List Int)) >>= fun v_9 =>
  (M.f34 fuel v_1 0) >>= fun v_11 =>
  (M.f59 fuel v_1 0) >>= fun v_13 =>
  (M.f22 fuel v_1 0) >>= fun v_15 =>
  (M.f71 2) >>= fun v_17 =>
  (M.f20 fuel v_17 0) >>= fun v_19 =>
  (M.f29 fuel v_1 0 ([0, 2] : List Int)) >>= fun v_21 =>
  (M.f57 fuel v_1 0 v_11.1) >>= fun v_23 =>
  (idx v_1.2.2.2.2 1) >>= fun v_25 =>
  (M.f72 v_25) >>= fun v_27 =>
  (guardO (!(((((((v_3.2 != 0) || (!v_3.1)) || (v_5.2 != 0)) || v_5.1) || (v_7.2 != 0)) || v_7.1) || (v_9.2 != 0))) (M.f24 v_9.1 ([0, 1, 3] : List Int))) >>= fun v_29 =>
  (if ((((((((v_3.2 != 0) || (!v_3.1)) || (v_5.2 != 0)) || v_5.1) || (v_7.2 != 0)) || v_7.1) || (v_9.2 != 0)) || (!v_29)) = true then (
  some false)
  else (
  (guardO (!((v_11.2.2 != 0) || (!v_11.2.1))) (M.f24 v_11.1 ([0, 1, 2] : List Int))) >>= fun v_31 =>
  (guardO (!(((((v_11.2.2 != 0) || (!v_11.2.1)) || (!v_31)) || (v_13.2.2 != 0)) || (!v_13.2.1))) (M.f24 v_13.1 ([3] : List Int))) >>= fun v_33 =>
  (guardO (!(((((((v_11.2.2 != 0) || (!v_11.2.1)) || (!v_31)) || (v_13.2.2 != 0)) || (!v_13.2.1)) || (!v_33)) || (v_15.2 != 0))) (M.f24 v_15.1 ([4, 7, 9, 9] : List Int))) >>= fun v_35 =>
  (if ((((((((v_11.2.2 != 0) || (!v_11.2.1)) || (!v_31)) || (v_13.2.2 != 0)) || (!v_13.2.1)) || (!v_33)) || (v_15.2 != 0)) || (!v_35)) = true then (
  some false)
  else (
  (guardO ((v_19.2.2 == 0) && v_19.2.1) (M.f24 v_19.1 ([0, 1] : List Int))) >>= fun v_37 =>
  (guardO (((((v_19.2.2 == 0) && v_19.2.1) && v_37) && (v_21.2.2 == 0)) && v_21.2.1) (M.f32 v_1 0 ([0, 2] : List Int) v_21.1)) >>= fun v_39 =>
  (guardO ((((((v_19.2.2 == 0) && v_19.2.1) && v_37) && (v_21.2.2 == 0)) && v_21.2.1) && (v_39 == 0)) (M.f32 v_1 0 ([0, 2] : List Int) ([149, 150] : List Int))) >>= fun v_41 =>
  (guardO (((((((((((v_19.2.2 == 0) && v_19.2.1) && v_37) && (v_21.2.2 == 0)) && v_21.2.1) && (v_39 == 0)) && (v_41 == 61)) && (v_23.2 == 0)) && (v_23.1 == 0)) && (v_27.2 == 0)) && (v_27.1 == (⟨#[48,32,48,32,49,52,53,32,49,32,49,55,48,32,51]⟩ : ByteArray))) (M.f35 fuel v_1 0 ([0, 2] : List Int))) >>= fun v_43 =>
  (guardO ((((((((((((v_19.2.2 == 0) && v_19.2.1) && v_37) && (v_21.2.2 == 0)) && v_21.2.1) && (v_39 == 0)) && (v_41 == 61)) && (v_23.2 == 0)) && (v_23.1 == 0)) && (v_27.2 == 0)) && (v_27.1 == (⟨#[48,32,48,32,49,52,53,32,49,32,49,55,48,32,51]⟩ : ByteArray))) && (v_43 == 71)) (M.f71 2)) >>= fun v_45 =>
  (guardO ((((((((((((v_19.2.2 == 0) && v_19.2.1) && v_37) && (v_21.2.2 == 0)) && v_21.2.1) && (v_39 == 0)) && (v_41 == 61)) && (v_23.2 == 0)) && (v_23.1 == 0)) && (v_27.2 == 0)) && (v_27.1 == (⟨#[48,32,48,32,49,52,53,32,49,32,49,55,48,32,51]⟩ : ByteArray))) && (v_43 == 71)) (M.f25 fuel v_45 0 ([0] : List Int))) >>= fun v_47 =>
  (guardO (((((((((((((v_19.2.2 == 0) && v_19.2.1) && v_37) && (v_21.2.2 == 0)) && v_21.2.1) && (v_39 == 0)) && (v_41 == 61)) && (v_23.2 == 0)) && (v_23.1 == 0)) && (v_27.2 == 0)) && (v_27.1 == (⟨#[48,32,48,32,49,52,53,32,49,32,49,55,48,32,51]⟩ : ByteArray))) && (v_43 == 71)) && (v_47 == 32)) (M.f27 v_1 0 9 v_15.1)) >>= fun v_49 =>
  (guardO ((((((((((((((v_19.2.2 == 0) && v_19.2.1) && v_37) && (v_21.2.2 == 0)) && v_21.2.1) && (v_39 == 0)) && (v_41 == 61)) && (v_23.2 == 0)) && (v_23.1 == 0)) && (v_27.2 == 0)) && (v_27.1 == (⟨#[48,32,48,32,49,52,53,32,49,32,49,55,48,32,51]⟩ : ByteArray))) && (v_43 == 71)) && (v_47 == 32)) && (v_49 == 0)) (M.f27 v_1 0 10 v_15.1)) >>= fun v_51 =>
  (guardO (((((((((((((((v_19.2.2 == 0) && v_19.2.1) && v_37) && (v_21.2.2 == 0)) && v_21.2.1) && (v_39 == 0)) && (v_41 == 61)) && (v_23.2 == 0)) && (v_23.1 == 0)) && (v_27.2 == 0)) && (v_27.1 == (⟨#[48,32,48,32,49,52,53,32,49,32,49,55,48,32,51]⟩ : ByteArray))) && (v_43 == 71)) && (v_47 == 32)) && (v_49 == 0)) && (v_51 == 32)) (M.f47 ((0, 0, 0, [], []) : S_api_Roster))) >>= fun v_53 =>
  some ((((((((((((((((v_19.2.2 == 0) && v_19.2.1) && v_37) && (v_21.2.2 == 0)) && v_21.2.1) && (v_39 == 0)) && (v_41 == 61)) && (v_23.2 == 0)) && (v_23.1 == 0)) && (v_27.2 == 0)) && (v_27.1 == (⟨#[48,32,48,32,49,52,53,32,49,32,49,55,48,32,51]⟩ : ByteArray))) && (v_43 == 71)) && (v_47 == 32)) && (v_49 == 0)) && (v_51 == 32)) && (v_53 == 70))))))

/-- waterhour/waterhourlaw07.few -/
def f17 (p0 : S_api_Roster) (p1 : List (List Int)) : Option Bool :=
  (forM (ρ := Bool) 0 (p1.length : Int) (() : Unit) fun i_1 _s_3 =>
    (idx p1 i_1) >>= fun v_7 =>
    (if (decide (100 < (v_7.length : Int))) = true then (
    some (.leave false))
    else (
    some (.again ())))) >>= fun o_4 => Out.elim o_4 (fun _s_3 =>
    some ((decide ((p0.2.2.2.1.length : Int) ≤ 100)) && (decide ((p0.2.2.2.2.length : Int) ≤ 100)))) (fun p_9 =>
    some p_9)

/-- waterhour/waterhourref07.Right -/
def f116 (p0 : S_api_Turn) : Option Bool :=
  some ((((((((((((decide (0 ≤ p0.1)) && (decide (p0.1 < 8))) && (decide (0 ≤ p0.2.1))) && (decide (p0.2.1 < 8))) && (decide (0 ≤ p0.2.2.2.1))) && (decide (p0.2.2.2.1 < 8))) && (decide (0 ≤ p0.2.2.1))) && (decide (p0.2.2.1 ≤ 16777216))) && (decide (0 ≤ p0.2.2.2.2.1))) && (decide (p0.2.2.2.2.1 ≤ 16777216))) && (decide (0 ≤ p0.2.2.2.2.2))) && (decide (p0.2.2.2.2.2 ≤ 10000)))

/-- waterhour/waterhourref07.closed -/
def f117 (fuel : Nat) (p0 : List (List Int)) : Option Bool :=
  (loopM (ρ := (Unit ⊕ Bool)) (fun s_1 : Int =>
    (if (decide (s_1 < (p0.length : Int))) = true then (
    (loopM (ρ := (Unit ⊕ Bool)) (fun s_5 : Int =>
      (if (decide (s_5 < (p0.length : Int))) = true then (
      (loopM (ρ := (Unit ⊕ Bool)) (fun s_9 : Int =>
        (if (decide (s_9 < (p0.length : Int))) = true then (
        (idx p0 s_1) >>= fun v_13 =>
        (idx v_13 s_9) >>= fun v_15 =>
        (idx p0 s_1) >>= fun v_17 =>
        (idx v_17 s_5) >>= fun v_19 =>
        (idx p0 s_5) >>= fun v_21 =>
        (idx v_21 s_9) >>= fun v_23 =>
        (if (decide ((wr (v_19 + v_23)) < v_15)) = true then (
        some (.leave (.inr false)))
        else (
        some (.again (wr (s_9 + 1))))))
        else (
        some (.leave (.inl ()))))) fuel (0 : Int)) >>= fun o_10 =>
      (fun x_ => sumE x_ (fun _p_25 =>
        some (.again (wr (s_5 + 1)))) (fun p_26 =>
        some (.leave (.inr p_26)))) o_10)
      else (
      some (.leave (.inl ()))))) fuel (0 : Int)) >>= fun o_6 =>
    (fun x_ => sumE x_ (fun _p_27 =>
      some (.again (wr (s_1 + 1)))) (fun p_28 =>
      some (.leave (.inr p_28)))) o_6)
    else (
    some (.leave (.inl ()))))) fuel (0 : Int)) >>= fun o_2 =>
  (fun x_ => sumE x_ (fun _p_29 =>
    some true) (fun p_30 =>
    some p_30)) o_2

/-- waterhour/waterhourref07.Valid -/
def f33 (fuel : Nat) (p0 : S_api_Roster) : Option Bool :=
  (if ((((((((decide (p0.1 < 1)) || (decide (8 < p0.1))) || (decide (p0.2.1 < 0))) || (decide (p0.2.2.1 ≤ p0.2.1))) || (decide (16777216 < p0.2.2.1))) || (decide ((p0.2.2.2.1.length : Int) < 1))) || (decide (8 < (p0.2.2.2.1.length : Int)))) || (decide (24 < (p0.2.2.2.2.length : Int)))) = true then (
  some false)
  else (
  (loopM (ρ := (Unit ⊕ Bool)) (fun s_1 : Int =>
    (if (decide (s_1 < (p0.2.2.2.1.length : Int))) = true then (
    (idx p0.2.2.2.1 s_1) >>= fun v_5 =>
    (guardO (!((v_5.length : Int) != (p0.2.2.2.1.length : Int))) (idx p0.2.2.2.1 s_1)) >>= fun v_7 =>
    (guardO (!((v_5.length : Int) != (p0.2.2.2.1.length : Int))) (idx v_7 s_1)) >>= fun v_9 =>
    (if (((v_5.length : Int) != (p0.2.2.2.1.length : Int)) || (v_9 != 0)) = true then (
    some (.leave (.inr false)))
    else (
    (loopM (ρ := (Unit ⊕ Bool)) (fun s_11 : Int =>
      (if (decide (s_11 < (p0.2.2.2.1.length : Int))) = true then (
      (idx p0.2.2.2.1 s_1) >>= fun v_15 =>
      (idx v_15 s_11) >>= fun v_17 =>
      (guardO (!(decide (v_17 < (-1048576)))) (idx p0.2.2.2.1 s_1)) >>= fun v_19 =>
      (guardO (!(decide (v_17 < (-1048576)))) (idx v_19 s_11)) >>= fun v_21 =>
      (if ((decide (v_17 < (-1048576))) || (decide (1048576 < v_21))) = true then (
      some (.leave (.inr false)))
      else (
      some (.again (wr (s_11 + 1))))))
      else (
      some (.leave (.inl ()))))) fuel (0 : Int)) >>= fun o_12 =>
    (fun x_ => sumE x_ (fun _p_23 =>
      some (.again (wr (s_1 + 1)))) (fun p_24 =>
      some (.leave (.inr p_24)))) o_12)))
    else (
    some (.leave (.inl ()))))) fuel (0 : Int)) >>= fun o_2 =>
  (fun x_ => sumE x_ (fun _p_45 =>
    (loopM (ρ := (Unit ⊕ Bool)) (fun s_46 : Int =>
      (if (decide (s_46 < (p0.2.2.2.2.length : Int))) = true then (
      (idx p0.2.2.2.2 s_46) >>= fun v_50 =>
      (guardO (!(decide (p0.1 ≤ v_50.1))) (idx p0.2.2.2.2 s_46)) >>= fun v_52 =>
      (guardO (!((decide (p0.1 ≤ v_50.1)) || (decide ((p0.2.2.2.1.length : Int) ≤ v_52.2.1)))) (idx p0.2.2.2.2 s_46)) >>= fun v_54 =>
      (guardO (!(((decide (p0.1 ≤ v_50.1)) || (decide ((p0.2.2.2.1.length : Int) ≤ v_52.2.1))) || (decide ((p0.2.2.2.1.length : Int) ≤ v_54.2.2.2.1)))) (idx p0.2.2.2.2 s_46)) >>= fun v_56 =>
      (guardO (!(((decide (p0.1 ≤ v_50.1)) || (decide ((p0.2.2.2.1.length : Int) ≤ v_52.2.1))) || (decide ((p0.2.2.2.1.length : Int) ≤ v_54.2.2.2.1)))) (M.f116 v_56)) >>= fun v_58 =>
      (if ((((decide (p0.1 ≤ v_50.1)) || (decide ((p0.2.2.2.1.length : Int) ≤ v_52.2.1))) || (decide ((p0.2.2.2.1.length : Int) ≤ v_54.2.2.2.1))) || (!v_58)) = true then (
      some (.leave (.inr false)))
      else (
      some (.again (wr (s_46 + 1))))))
      else (
      some (.leave (.inl ()))))) fuel (0 : Int)) >>= fun o_47 =>
    (fun x_ => sumE x_ (fun _p_62 =>
      (M.f117 fuel p0.2.2.2.1) >>= fun v_63 =>
      some v_63) (fun p_65 =>
      some p_65)) o_47) (fun p_66 =>
    some p_66)) o_2))

/-- waterhour/waterhourref07.turn -/
def f124 (p0 : S_api_Roster) (p1 : Int) : Option Bool :=
  some ((decide (0 ≤ p1)) && (decide (p1 < (p0.2.2.2.2.length : Int))))

/-- waterhour/waterhourref07.Starts -/
def f83 (p0 : S_api_Roster) (p1 : Int) : Option Bool :=
  (idx p0.2.2.2.2 p1) >>= fun v_1 =>
  (idx p0.2.2.2.1 0) >>= fun v_3 =>
  (idx v_3 v_1.2.1) >>= fun v_5 =>
  some (decide ((wr ((wr (v_1.2.2.1 - p0.2.1)) + v_5)) ≤ 0))

/-- waterhour/waterhourref07.Lasts -/
def f98 (p0 : S_api_Roster) (p1 : Int) : Option Bool :=
  (idx p0.2.2.2.2 p1) >>= fun v_1 =>
  (idx p0.2.2.2.1 v_1.2.2.2.1) >>= fun v_3 =>
  (idx v_3 0) >>= fun v_5 =>
  some (decide ((wr ((wr (p0.2.2.1 - v_1.2.2.2.2.1)) + v_5)) ≤ 0))

/-- waterhour/waterhourref07.Follows -/
def f84 (p0 : S_api_Roster) (p1 : Int) (p2 : Int) : Option Bool :=
  (idx p0.2.2.2.2 p1) >>= fun v_1 =>
  (idx p0.2.2.2.2 p2) >>= fun v_3 =>
  (guardO ((p1 != p2) && (v_1.1 == v_3.1)) (idx p0.2.2.2.1 v_1.2.2.2.1)) >>= fun v_5 =>
  (guardO ((p1 != p2) && (v_1.1 == v_3.1)) (idx v_5 v_3.2.1)) >>= fun v_7 =>
  some (((p1 != p2) && (v_1.1 == v_3.1)) && (decide ((wr ((wr (v_3.2.2.1 - v_1.2.2.2.2.1)) + v_7)) ≤ 0)))

/-- waterhour/waterhourref07.different -/
def f96 (fuel : Nat) (p0 : S_api_Roster) (p1 : Int) (p2 : List Int) : Option Bool :=
  (loopM (ρ := (Unit ⊕ Bool)) (fun s_1 : Int =>
    (if (decide (s_1 < (p2.length : Int))) = true then (
    (idx p2 s_1) >>= fun v_5 =>
    (M.f124 p0 v_5) >>= fun v_7 =>
    (guardO ((!(!v_7)) && (decide (0 ≤ p1))) (idx p2 s_1)) >>= fun v_9 =>
    (guardO ((!(!v_7)) && (decide (0 ≤ p1))) (idx p0.2.2.2.2 v_9)) >>= fun v_11 =>
    (if ((!v_7) || ((decide (0 ≤ p1)) && (v_11.1 != p1))) = true then (
    some (.leave (.inr false)))
    else (
    (loopM (ρ := (Unit ⊕ Bool)) (fun s_13 : Int =>
      (if (decide (s_13 < s_1)) = true then (
      (idx p2 s_13) >>= fun v_17 =>
      (idx p2 s_1) >>= fun v_19 =>
      (if (v_17 == v_19) = true then (
      some (.leave (.inr false)))
      else (
      some (.again (wr (s_13 + 1))))))
      else (
      some (.leave (.inl ()))))) fuel (0 : Int)) >>= fun o_14 =>
    (fun x_ => sumE x_ (fun _p_21 =>
      some (.again (wr (s_1 + 1)))) (fun p_22 =>
      some (.leave (.inr p_22)))) o_14)))
    else (
    some (.leave (.inl ()))))) fuel (0 : Int)) >>= fun o_2 =>
  (fun x_ => sumE x_ (fun _p_23 =>
    some true) (fun p_24 =>
    some p_24)) o_2

end Go.Proofs.YthogdhepjcomjaaGreatDoor.M
