/-
  Models of Go functions, written by program; nothing is claimed here.
-/
import Derived.Test.YthogdhepjcomjaaGreatDoorModelH
namespace Go.Proofs.YthogdhepjcomjaaGreatDoor.M
open Go Go.Proofs.YthogdhepjcomjaaGreatDoor Go.Proofs.YthogdhepjcomjaaGreatDoor.Wh

/-- waterhour/watch.Needed$1 -/
def f125 (fuel : Nat) (p0 : Int) (c0 : S_api_Roster) (c1 : Int) : Option Bool :=
  (M.f74 fuel c0 c1 p0) >>= fun v_1 =>
  (M.f77 c0 v_1) >>= fun v_3 =>
  some (!v_3)

/-- waterhour/watch.Needed -/
def f55 (fuel : Nat) (p0 : S_api_Roster) (p1 : Int) : Option ((List Int) × Int) :=
  (M.f73 p0 p1) >>= fun v_1 =>
  (if (v_1 != 0) = true then (
  some (([] : List Int), v_1))
  else (
  (M.f74 fuel p0 p1 (-1)) >>= fun v_3 =>
  (M.f77 p0 v_3) >>= fun v_5 =>
  (if (!v_5) = true then (
  some (([] : List Int), 4))
  else (
  (M.f90 p0 p1 ((fun x0 => M.f125 fuel x0 p0 p1) : (Int → Option Bool))) >>= fun v_7 =>
  some (v_7, 0)))))

/-- waterhour/waterhourref07.without -/
def f126 (p0 : S_api_Roster) (p1 : Int) : Option S_api_Roster :=
  (app ([] : List S_api_Turn) p0.2.2.2.2) >>= fun z_4 =>
  (idx z_4 p1) >>= fun v_8 =>
  (set1 z_4 p1 ((8, v_8.2.1, v_8.2.2.1, v_8.2.2.2.1, v_8.2.2.2.2.1, v_8.2.2.2.2.2) : S_api_Turn)) >>= fun z_10 =>
  some ((p0.1, p0.2.1, p0.2.2.1, p0.2.2.2.1, z_10) : S_api_Roster)

/-- waterhour/waterhourref07.Needed -/
def f56 (fuel : Nat) (p0 : S_api_Roster) (p1 : Int) : Option ((List Int) × Int) :=
  (M.f75 fuel p0 p1) >>= fun v_1 =>
  (if (v_1 != 0) = true then (
  some (([] : List Int), v_1))
  else (
  (M.f78 fuel p0 p1 false) >>= fun v_3 =>
  (if ((v_3.length : Int) == 0) = true then (
  some (([] : List Int), 4))
  else (
  (loopM (ρ := (List Int)) (fun s_5 : Int × (List Int) =>
    (if (decide (s_5.1 < (p0.2.2.2.2.length : Int))) = true then (
    (M.f126 p0 s_5.1) >>= fun v_10 =>
    (M.f78 fuel v_10 p1 false) >>= fun v_12 =>
    (if ((v_12.length : Int) == 0) = true then (
    (app s_5.2 ([s_5.1] : List Int)) >>= fun z_17 =>
    some z_17)
    else (
    some s_5.2)) >>= fun y_15 =>
    some (.again ((wr (s_5.1 + 1)), y_15)))
    else (
    some (.leave s_5.2)))) fuel ((0, ([] : List Int)) : Int × (List Int))) >>= fun o_6 =>
  (fun p_20 =>
    some (p_20, 0)) o_6))))

/-- waterhour/waterhourref07.Spare -/
def f58 (fuel : Nat) (p0 : S_api_Roster) (p1 : Int) (p2 : List Int) : Option (Int × Int) :=
  (M.f75 fuel p0 p1) >>= fun v_1 =>
  (if (v_1 != 0) = true then (
  some (0, v_1))
  else (
  (M.f129 fuel p0 p1 p2) >>= fun v_3 =>
  (if (!v_3) = true then (
  some (0, 71))
  else (
  (idx p2 0) >>= fun v_5 =>
  (idx p0.2.2.2.2 v_5) >>= fun v_7 =>
  (if ((v_7 : S_api_Turn).2.1 != 0) = true then (
  (idx p0.2.2.2.1 0) >>= fun v_12 =>
  (idx v_12 ((v_7 : S_api_Turn).2.1)) >>= fun v_14 =>
  some (imin 1048576 (wr ((wr (p0.2.1 - (v_7 : S_api_Turn).2.2.1)) - v_14))))
  else (
  some 1048576)) >>= fun y_11 =>
  (idx p2 (wr ((p2.length : Int) - 1))) >>= fun v_16 =>
  (idx p0.2.2.2.2 v_16) >>= fun v_18 =>
  (if ((v_18 : S_api_Turn).2.2.2.1 != 0) = true then (
  (idx p0.2.2.2.1 ((v_18 : S_api_Turn).2.2.2.1)) >>= fun v_23 =>
  (idx v_23 0) >>= fun v_25 =>
  some (imin y_11 (wr ((wr ((v_18 : S_api_Turn).2.2.2.2.1 - p0.2.2.1)) - v_25))))
  else (
  some y_11)) >>= fun y_22 =>
  (loopM (ρ := Int) (fun s_27 : Int × Int =>
    (if (decide (s_27.2 < (p2.length : Int))) = true then (
    (idx p2 (wr (s_27.2 - 1))) >>= fun v_31 =>
    (idx p0.2.2.2.2 v_31) >>= fun v_33 =>
    (idx p2 s_27.2) >>= fun v_36 =>
    (idx p0.2.2.2.2 v_36) >>= fun v_38 =>
    (if ((v_33 : S_api_Turn).2.2.2.1 != (v_38 : S_api_Turn).2.1) = true then (
    (idx p0.2.2.2.1 ((v_33 : S_api_Turn).2.2.2.1)) >>= fun v_43 =>
    (idx v_43 ((v_38 : S_api_Turn).2.1)) >>= fun v_45 =>
    some (imin s_27.1 (wr ((wr ((v_33 : S_api_Turn).2.2.2.2.1 - (v_38 : S_api_Turn).2.2.1)) - v_45))))
    else (
    some s_27.1)) >>= fun y_42 =>
    some (.again (y_42, (wr (s_27.2 + 1)))))
    else (
    some (.leave s_27.1)))) fuel ((y_22, 1) : Int × Int)) >>= fun o_28 =>
  (fun p_47 =>
    some (p_47, 0)) o_28))))

/-- waterhour/waterhourlaw07.WatchNeeds -/
def f10 (fuel : Nat) (p0 : S_api_Roster) (p1 : Int) (p2 : List Int) : Option Bool :=
  (M.f16 fuel ) >>= fun v_1 =>
  (if (!v_1) = true then (
  some false)
  else (
  (M.f17 p0 ([p2] : List (List Int))) >>= fun v_3 =>
  (if (!v_3) = true then (
  some true)
  else (
  (M.f55 fuel p0 p1) >>= fun v_5 =>
  (M.f56 fuel p0 p1) >>= fun v_7 =>
  (M.f57 fuel p0 p1 p2) >>= fun v_9 =>
  (M.f58 fuel p0 p1 p2) >>= fun v_11 =>
  (M.f24 v_5.1 v_7.1) >>= fun v_13 =>
  some (((v_13 && (v_5.2 == v_7.2)) && (v_9.1 == v_11.1)) && (v_9.2 == v_11.2))))))

end Go.Proofs.YthogdhepjcomjaaGreatDoor.M
