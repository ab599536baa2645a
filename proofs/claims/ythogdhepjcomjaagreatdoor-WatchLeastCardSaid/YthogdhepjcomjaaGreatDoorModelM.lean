/-
  Models of Go functions, written by program; nothing is claimed here.
-/
import Derived.Test.YthogdhepjcomjaaGreatDoorModelE
namespace Go.Proofs.YthogdhepjcomjaaGreatDoor.M
open Go Go.Proofs.YthogdhepjcomjaaGreatDoor Go.Proofs.YthogdhepjcomjaaGreatDoor.Wh

/-- waterhour/waterhourlaw07.WatchLeast -/
def f11 (fuel : Nat) (p0 : S_api_Roster) (p1 : Int) (p2 : List Int) (p3 : Int) (p4 : List Int) : Option Bool :=
  (M.f16 fuel ) >>= fun v_1 =>
  (if (!v_1) = true then (
  some false)
  else (
  (M.f33 fuel p0) >>= fun v_3 =>
  (guardO (!(!v_3)) (M.f17 p0 ([p2, p4] : List (List Int)))) >>= fun v_5 =>
  (if ((((!v_3) || (!v_5)) || (decide (p1 < 0))) || (decide (p0.1 ≤ p1))) = true then (
  some true)
  else (
  (M.f34 fuel p0 p1) >>= fun v_7 =>
  (M.f59 fuel p0 p1) >>= fun v_9 =>
  (M.f22 fuel p0 p1) >>= fun v_11 =>
  (if (((((v_7.2.2 != 0) || (v_9.2.2 != 0)) || (v_7.2.1 != v_9.2.1)) || (v_7.2.1 && (v_11.2 != 0))) || ((!v_7.2.1) && (v_11.2 != 4))) = true then (
  some false)
  else (
  (if (!v_7.2.1) = true then (
  (M.f35 fuel p0 p1 p2) >>= fun v_13 =>
  some (v_13 != 0))
  else (
  (M.f53 p0 v_7.1) >>= fun v_15 =>
  (M.f53 p0 v_9.1) >>= fun v_17 =>
  (guardO (!((v_15.2 != 0) || (v_17.2 != 0))) (M.f27 p0 p1 v_15.1 v_11.1)) >>= fun v_19 =>
  (guardO (!(((v_15.2 != 0) || (v_17.2 != 0)) || (v_19 != 0))) (M.f35 fuel p0 p1 v_9.1)) >>= fun v_21 =>
  (if ((((((v_15.2 != 0) || (v_17.2 != 0)) || (v_19 != 0)) || (v_21 != 0)) || (decide (v_17.1 < v_15.1))) || (decide ((v_7.1.length : Int) < (v_9.1.length : Int)))) = true then (
  some false)
  else (
  (guardO (decide (v_15.1 < p3)) (M.f27 p0 p1 p3 p4)) >>= fun v_23 =>
  (if ((decide (v_15.1 < p3)) && (v_23 == 0)) = true then (
  some false)
  else (
  (M.f35 fuel p0 p1 p2) >>= fun v_25 =>
  (if (v_25 != 0) = true then (
  some true)
  else (
  (M.f53 p0 p2) >>= fun v_27 =>
  some (((v_27.2 == 0) && (decide (v_15.1 ≤ v_27.1))) && (decide ((v_9.1.length : Int) ≤ (p2.length : Int))))))))))))))))))

end Go.Proofs.YthogdhepjcomjaaGreatDoor.M
