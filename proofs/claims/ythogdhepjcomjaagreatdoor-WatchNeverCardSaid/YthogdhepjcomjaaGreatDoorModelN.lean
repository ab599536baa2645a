/-
  Models of Go functions, written by program; nothing is claimed here.
-/
import Derived.Test.YthogdhepjcomjaaGreatDoorModelE
import Derived.Test.YthogdhepjcomjaaGreatDoorRevM
namespace Go.Proofs.YthogdhepjcomjaaGreatDoor.M
open Go Go.Proofs.YthogdhepjcomjaaGreatDoor Go.Proofs.YthogdhepjcomjaaGreatDoor.Wh

/-- waterhour/waterhourlaw07.WatchNever$1 -/
def f43 (p0 : Int) (c0 : List Int) : Option Bool :=
  (M.f44 c0 p0) >>= fun v_1 =>
  some v_1

/-- waterhour/waterhourlaw07.WatchNever -/
def f8 (fuel : Nat) (p0 : S_api_Roster) (p1 : Int) (p2 : List Int) (p3 : List Int) : Option Bool :=
  (M.f16 fuel ) >>= fun v_1 =>
  (if (!v_1) = true then (
  some false)
  else (
  (M.f33 fuel p0) >>= fun v_3 =>
  (guardO (!(!v_3)) (M.f17 p0 ([p2, p3] : List (List Int)))) >>= fun v_5 =>
  (if ((((!v_3) || (!v_5)) || (decide (p1 < 0))) || (decide (p0.1 ≤ p1))) = true then (
  some true)
  else (
  (M.f34 fuel p0 p1) >>= fun v_7 =>
  (if (v_7.2.2 != 0) = true then (
  some false)
  else (
  (forM (ρ := Bool) 0 (([p2, v_7.1] : List (List Int)).length : Int) (() : Unit) fun i_9 s_11 =>
    (idx ([p2, v_7.1] : List (List Int)) i_9) >>= fun v_15 =>
    (M.f35 fuel p0 p1 v_15) >>= fun v_17 =>
    (if (v_17 != 0) = true then (
    (guardO (((v_15.length : Int) == (v_7.1.length : Int)) && v_7.2.1) (M.f24 v_15 v_7.1)) >>= fun v_19 =>
    (if ((((v_15.length : Int) == (v_7.1.length : Int)) && v_7.2.1) && v_19) = true then (
    some (.leave false))
    else (
    some (.again ()))))
    else (
    (M.f40 p0 p3) >>= fun v_21 =>
    (guardO ((v_21.2 == 0) && (decide (0 < (p3.length : Int)))) (idx p3 0)) >>= fun v_23 =>
    (guardO (((v_21.2 == 0) && (decide (0 < (p3.length : Int)))) && (decide (p0.2.1 ≤ v_23))) (idx p3 0)) >>= fun v_25 =>
    (guardO ((((v_21.2 == 0) && (decide (0 < (p3.length : Int)))) && (decide (p0.2.1 ≤ v_23))) && (decide (v_25 < p0.2.2.1))) (M.f42 v_15 ((fun x0 => M.f43 x0 v_21.1) : (Int → Option Bool)))) >>= fun v_27 =>
    (if (((((v_21.2 == 0) && (decide (0 < (p3.length : Int)))) && (decide (p0.2.1 ≤ v_23))) && (decide (v_25 < p0.2.2.1))) && (!v_27)) = true then (
    some (.leave false))
    else (
    (if (decide (8 < (v_15.length : Int))) = true then (
    some (.again ()))
    else (
    (M.f45 v_15) >>= fun m_29 =>
    (M.f46 m_29) >>= fun z_33 =>
    (M.f29 fuel p0 p1 z_33) >>= fun v_35 =>
    (if (((v_35.2.2 != 0) || v_35.2.1) || ((v_35.1.length : Int) != 0)) = true then (
    some (.leave false))
    else (
    some (.again ())))))))))) >>= fun o_12 => Out.elim o_12 (fun s_11 =>
    some true) (fun p_37 =>
    some p_37)))))))

end Go.Proofs.YthogdhepjcomjaaGreatDoor.M
