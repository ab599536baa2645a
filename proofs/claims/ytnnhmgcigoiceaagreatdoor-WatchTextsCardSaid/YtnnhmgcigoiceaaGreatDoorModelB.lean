/-
  Models of Go functions, written by program; nothing is claimed here.
-/
import Derived.Test.YtnnhmgcigoiceaaGreatDoorModelA
namespace Go.Proofs.YtnnhmgcigoiceaaGreatDoor.M
open Go Go.Proofs.YtnnhmgcigoiceaaGreatDoor Go.Proofs.YtnnhmgcigoiceaaGreatDoor.Wh

/-- waterhour/watch.turns$1 -/
def f77 (p0 : Int) (c0 : S_api_Roster) : Option Bool :=
  (M.f54 p0 0 (wr ((c0.2.2.2.2.length : Int) - 1))) >>= fun v_1 =>
  some (!v_1)

/-- slices.IndexFunc[[]int,int] -/
def f97 (p0 : List Int) (p1 : (Int → Option Bool)) : Option Int :=
  (forM (ρ := Int) 0 (p0.length : Int) (() : Unit) fun i_1 s_3 =>
    (idx p0 i_1) >>= fun v_7 =>
    (p1 v_7) >>= fun v_9 =>
    (if v_9 = true then (
    some (.leave i_1))
    else (
    some (.again ())))) >>= fun o_4 => Out.elim o_4 (fun s_3 =>
    some (-1)) (fun p_11 =>
    some p_11)

/-- slices.ContainsFunc[[]int,int] -/
def f55 (p0 : List Int) (p1 : (Int → Option Bool)) : Option Bool :=
  (M.f97 p0 p1) >>= fun v_1 =>
  some (decide (0 ≤ v_1))

/-- waterhour/watch.turns -/
def f32 (p0 : S_api_Roster) (p1 : List Int) : Option Int :=
  (M.f25 p0) >>= fun v_1 =>
  (if (v_1 != 0) = true then (
  some v_1)
  else (
  (M.f55 p1 ((fun x0 => M.f77 x0 p0) : (Int → Option Bool))) >>= fun v_3 =>
  (if v_3 = true then (
  some 1)
  else (
  some 0))))

/-- waterhour/watch.lagOf -/
def f78 (p0 : S_api_Roster) (p1 : Int) (p2 : Int) (p3 : Int) (p4 : Int) : Option S_watch_lag :=
  (idx p0.2.2.2.1 p1) >>= fun v_2 =>
  (idx v_2 p3) >>= fun v_4 =>
  some (((wr ((wr (p4 - p2)) + v_4)), (p1 == p3)) : S_watch_lag)

/-- waterhour/watch.begin -/
def f33 (p0 : S_api_Roster) (p1 : Int) : Option S_watch_lag :=
  (idx p0.2.2.2.2 p1) >>= fun v_2 =>
  (M.f78 p0 0 p0.2.1 v_2.2.1 v_2.2.2.1) >>= fun v_4 =>
  some v_4

/-- (waterhour/watch.lag).never -/
def f34 (p0 : S_watch_lag) : Option Bool :=
  some (decide (p0.1 ≤ 0))

/-- waterhour/watch.Begins -/
def f10 (p0 : S_api_Roster) (p1 : Int) : Option (Bool × Int) :=
  (M.f32 p0 ([p1] : List Int)) >>= fun v_1 =>
  (if (v_1 != 0) = true then (
  some (false, v_1))
  else (
  (M.f33 p0 p1) >>= fun v_3 =>
  (M.f34 v_3) >>= fun v_5 =>
  some (v_5, 0)))

/-- waterhour/watch.meet -/
def f79 (p0 : S_api_Roster) (p1 : Int) (p2 : Int) : Option S_watch_lag :=
  (idx p0.2.2.2.2 p1) >>= fun v_2 =>
  (idx p0.2.2.2.2 p2) >>= fun v_4 =>
  (M.f78 p0 ((v_2 : S_api_Turn).2.2.2.1) ((v_2 : S_api_Turn).2.2.2.2.1) ((v_4 : S_api_Turn).2.1) ((v_4 : S_api_Turn).2.2.1)) >>= fun v_8 =>
  some v_8

/-- waterhour/watch.follows -/
def f35 (p0 : S_api_Roster) (p1 : Int) (p2 : Int) : Option Bool :=
  (guardO (p1 != p2) (idx p0.2.2.2.2 p1)) >>= fun v_1 =>
  (guardO (p1 != p2) (idx p0.2.2.2.2 p2)) >>= fun v_3 =>
  (guardO ((p1 != p2) && (v_1.1 == v_3.1)) (M.f79 p0 p1 p2)) >>= fun v_5 =>
  (guardO ((p1 != p2) && (v_1.1 == v_3.1)) (M.f34 v_5)) >>= fun v_7 =>
  some (((p1 != p2) && (v_1.1 == v_3.1)) && v_7)

/-- waterhour/watch.Meets -/
def f11 (p0 : S_api_Roster) (p1 : Int) (p2 : Int) : Option (Bool × Int) :=
  (M.f32 p0 ([p1, p2] : List Int)) >>= fun v_1 =>
  (if (v_1 != 0) = true then (
  some (false, v_1))
  else (
  (M.f35 p0 p1 p2) >>= fun v_3 =>
  some (v_3, 0)))

/-- waterhour/watch.end -/
def f36 (p0 : S_api_Roster) (p1 : Int) : Option S_watch_lag :=
  (idx p0.2.2.2.2 p1) >>= fun v_2 =>
  (M.f78 p0 v_2.2.2.2.1 v_2.2.2.2.2.1 0 p0.2.2.1) >>= fun v_4 =>
  some v_4

/-- waterhour/watch.Ends -/
def f12 (p0 : S_api_Roster) (p1 : Int) : Option (Bool × Int) :=
  (M.f32 p0 ([p1] : List Int)) >>= fun v_1 =>
  (if (v_1 != 0) = true then (
  some (false, v_1))
  else (
  (M.f36 p0 p1) >>= fun v_3 =>
  (M.f34 v_3) >>= fun v_5 =>
  some (v_5, 0)))

/-- waterhour/watch.isShown$1 -/
def f80 (p0 : Int) : Option Bool :=
  (M.f54 p0 (-33554432) 33554432) >>= fun v_1 =>
  some (!v_1)

/-- waterhour/watch.isShown -/
def f37 (p0 : S_api_Roster) (p1 : List Int) : Option Bool :=
  (guardO ((p1.length : Int) == (p0.2.2.2.1.length : Int)) (M.f55 p1 (fun x0 => M.f80 x0))) >>= fun v_1 =>
  some (((p1.length : Int) == (p0.2.2.2.1.length : Int)) && (!v_1))

/-- waterhour/watch.isMoment -/
def f38 (p0 : S_api_Roster) (p1 : List Int) : Option Bool :=
  (forM (ρ := Bool) 0 (p0.2.2.2.1.length : Int) (() : Unit) fun i_1 s_3 =>
    (idx p0.2.2.2.1 i_1) >>= fun v_7 =>
    (forM (ρ := Bool) 0 (v_7.length : Int) (() : Unit) fun i_9 s_11 =>
      (idx v_7 i_9) >>= fun v_15 =>
      (idx p1 i_1) >>= fun v_17 =>
      (idx p1 i_9) >>= fun v_19 =>
      (if (decide (v_15 < (wr (v_17 - v_19)))) = true then (
      some (.leave false))
      else (
      some (.again ())))) >>= fun o_12 => Out.elim o_12 (fun s_11 =>
      some (.again ())) (fun p_21 =>
      some (.leave p_21))) >>= fun o_4 => Out.elim o_4 (fun s_3 =>
    some true) (fun p_22 =>
    some p_22)

/-- waterhour/watch.guards -/
def f39 (p0 : S_api_Turn) (p1 : List Int) : Option Bool :=
  (idx p1 p0.2.1) >>= fun v_1 =>
  (guardO (decide (p0.2.2.1 ≤ v_1)) (idx p1 p0.2.2.2.1)) >>= fun v_3 =>
  some ((decide (p0.2.2.1 ≤ v_1)) && (decide (v_3 < p0.2.2.2.2.1)))

/-- waterhour/watch.Who -/
def f13 (p0 : S_api_Roster) (p1 : List Int) : Option ((List Int) × Int) :=
  (M.f25 p0) >>= fun v_1 =>
  (if (v_1 != 0) = true then (
  some (([] : List Int), v_1))
  else (
  (M.f37 p0 p1) >>= fun v_3 =>
  (if (!v_3) = true then (
  some (([] : List Int), 1))
  else (
  (M.f38 p0 p1) >>= fun v_5 =>
  (if (!v_5) = true then (
  some (([] : List Int), 61))
  else (
  (forS 0 (p0.2.2.2.2.length : Int) (([] : List Int) : (List Int)) fun i_7 s_9 =>
    (idx p0.2.2.2.2 i_7) >>= fun v_14 =>
    (M.f39 v_14 p1) >>= fun v_17 =>
    (if v_17 = true then (
    (app s_9 ([i_7] : List Int)) >>= fun z_22 =>
    some z_22)
    else (
    some s_9)) >>= fun y_20 =>
    some y_20) >>= fun s_9 =>
  some (s_9, 0)))))))

end Go.Proofs.YtnnhmgcigoiceaaGreatDoor.M
