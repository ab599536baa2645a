/-
  Models of Go functions, written by program; nothing is claimed here.
-/
import Derived.Test.YthogdhepjcomjaaGreatDoorModelE
namespace Go.Proofs.YthogdhepjcomjaaGreatDoor.M
open Go Go.Proofs.YthogdhepjcomjaaGreatDoor Go.Proofs.YthogdhepjcomjaaGreatDoor.Wh

/-- waterhour/waterhourlaw07.told -/
def f39 (p0 : S_api_Roster) (p1 : Int) (p2 : Int) (p3 : Bool) : Option (List Int) :=
  (forS 0 (p0.2.2.2.1.length : Int) (([] : List Int) : (List Int)) fun i_1 s_3 =>
    (if p3 = true then (
    (idx p0.2.2.2.1 i_1) >>= fun v_11 =>
    (idx v_11 p1) >>= fun v_13 =>
    (app s_3 ([(wr (p2 + v_13))] : List Int)) >>= fun z_15 =>
    some z_15)
    else (
    (idx p0.2.2.2.1 p1) >>= fun v_18 =>
    (idx v_18 i_1) >>= fun v_20 =>
    (app s_3 ([(wr (p2 - v_20))] : List Int)) >>= fun z_22 =>
    some z_22)) >>= fun y_9 =>
    some y_9) >>= fun s_3 =>
  some s_3

/-- waterhour/waterhourlaw07.WatchSure -/
def f6 (fuel : Nat) (p0 : S_api_Roster) (p1 : Int) (p2 : Int) (p3 : List Int) : Option Bool :=
  (M.f16 fuel ) >>= fun v_1 =>
  (if (!v_1) = true then (
  some false)
  else (
  (M.f33 fuel p0) >>= fun v_3 =>
  (guardO (!(!v_3)) (M.f17 p0 ([p3] : List (List Int)))) >>= fun v_5 =>
  (if ((((((!v_3) || (!v_5)) || (decide (p1 < 0))) || (decide ((p0.2.2.2.2.length : Int) ≤ p1))) || (decide (p2 < 0))) || (decide ((p0.2.2.2.2.length : Int) ≤ p2))) = true then (
  some true)
  else (
  (idx p0.2.2.2.2 p1) >>= fun v_7 =>
  (idx p0.2.2.2.2 p2) >>= fun v_9 =>
  (M.f36 p0 p1) >>= fun v_13 =>
  (M.f37 p0 p1) >>= fun v_15 =>
  (M.f38 p0 p1 p2) >>= fun v_17 =>
  (if (((v_13.2 != 0) || (v_15.2 != 0)) || (v_17.2 != 0)) = true then (
  some false)
  else (
  (M.f39 p0 0 p0.2.1 false) >>= fun v_19 =>
  (M.f39 p0 ((v_7 : S_api_Turn).2.2.2.1) ((v_7 : S_api_Turn).2.2.2.2.1) false) >>= fun v_21 =>
  (M.f39 p0 0 (wr (p0.2.2.1 - 1)) true) >>= fun v_23 =>
  (forM (ρ := Bool) 0 (([v_19, v_21, v_23] : List (List Int)).length : Int) (() : Unit) fun i_25 s_27 =>
    (idx ([v_19, v_21, v_23] : List (List Int)) i_25) >>= fun v_31 =>
    (M.f40 p0 v_31) >>= fun v_33 =>
    (if (v_33.2 != 0) = true then (
    some (.leave false))
    else (
    some (.again ())))) >>= fun o_28 => Out.elim o_28 (fun s_27 =>
    (idx v_19 ((v_7 : S_api_Turn).2.1)) >>= fun v_35 =>
    (guardO (!(v_13.1 == (decide (v_35 < (v_7 : S_api_Turn).2.2.1)))) (idx v_23 ((v_7 : S_api_Turn).2.2.2.1))) >>= fun v_37 =>
    (if ((v_13.1 == (decide (v_35 < (v_7 : S_api_Turn).2.2.1))) || (v_15.1 == (decide ((v_7 : S_api_Turn).2.2.2.2.1 ≤ v_37)))) = true then (
    some false)
    else (
    (guardO ((p1 != p2) && ((v_7 : S_api_Turn).1 == (v_9 : S_api_Turn).1)) (idx v_21 ((v_9 : S_api_Turn).2.1))) >>= fun v_39 =>
    (if ((((p1 != p2) && ((v_7 : S_api_Turn).1 == (v_9 : S_api_Turn).1)) && (v_17.1 == (decide (v_39 < (v_9 : S_api_Turn).2.2.1)))) || (((p1 == p2) || ((v_7 : S_api_Turn).1 != (v_9 : S_api_Turn).1)) && v_17.1)) = true then (
    some false)
    else (
    (M.f40 p0 p3) >>= fun v_41 =>
    (if (v_41.2 != 0) = true then (
    some true)
    else (
    (guardO v_13.1 (idx p3 0)) >>= fun v_43 =>
    (guardO (v_13.1 && (decide (p0.2.1 ≤ v_43))) (idx p3 ((v_7 : S_api_Turn).2.1))) >>= fun v_45 =>
    (guardO ((!((v_13.1 && (decide (p0.2.1 ≤ v_43))) && (decide (v_45 < (v_7 : S_api_Turn).2.2.1)))) && v_15.1) (idx p3 0)) >>= fun v_47 =>
    (guardO ((!((v_13.1 && (decide (p0.2.1 ≤ v_43))) && (decide (v_45 < (v_7 : S_api_Turn).2.2.1)))) && (v_15.1 && (decide (v_47 < p0.2.2.1)))) (idx p3 ((v_7 : S_api_Turn).2.2.2.1))) >>= fun v_49 =>
    (guardO ((!(((v_13.1 && (decide (p0.2.1 ≤ v_43))) && (decide (v_45 < (v_7 : S_api_Turn).2.2.1))) || ((v_15.1 && (decide (v_47 < p0.2.2.1))) && (decide ((v_7 : S_api_Turn).2.2.2.2.1 ≤ v_49))))) && v_17.1) (idx p3 ((v_7 : S_api_Turn).2.2.2.1))) >>= fun v_51 =>
    (guardO ((!(((v_13.1 && (decide (p0.2.1 ≤ v_43))) && (decide (v_45 < (v_7 : S_api_Turn).2.2.1))) || ((v_15.1 && (decide (v_47 < p0.2.2.1))) && (decide ((v_7 : S_api_Turn).2.2.2.2.1 ≤ v_49))))) && (v_17.1 && (decide ((v_7 : S_api_Turn).2.2.2.2.1 ≤ v_51)))) (idx p3 ((v_9 : S_api_Turn).2.1))) >>= fun v_53 =>
    some (!((((v_13.1 && (decide (p0.2.1 ≤ v_43))) && (decide (v_45 < (v_7 : S_api_Turn).2.2.1))) || ((v_15.1 && (decide (v_47 < p0.2.2.1))) && (decide ((v_7 : S_api_Turn).2.2.2.2.1 ≤ v_49)))) || ((v_17.1 && (decide ((v_7 : S_api_Turn).2.2.2.2.1 ≤ v_51))) && (decide (v_53 < (v_9 : S_api_Turn).2.2.1)))))))))))) (fun p_55 =>
    some p_55)))))))

end Go.Proofs.YthogdhepjcomjaaGreatDoor.M
