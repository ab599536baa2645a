/-
  Models of Go functions, written by program; nothing is claimed here.
-/
import Derived.Test.YthogdhepjcomjaaGreatDoorModelE
namespace Go.Proofs.YthogdhepjcomjaaGreatDoor.M
open Go Go.Proofs.YthogdhepjcomjaaGreatDoor Go.Proofs.YthogdhepjcomjaaGreatDoor.Wh

/-- waterhour/waterhourlaw07.WatchShorter -/
def f13 (fuel : Nat) (p0 : S_api_Roster) (p1 : Int) (p2 : List Int) (p3 : Int) (p4 : Int) : Option Bool :=
  (M.f16 fuel ) >>= fun v_1 =>
  (if (!v_1) = true then (
  some false)
  else (
  (M.f33 fuel p0) >>= fun v_3 =>
  (guardO (!(!v_3)) (M.f17 p0 ([p2] : List (List Int)))) >>= fun v_5 =>
  (if (((((((!v_3) || (!v_5)) || (decide (p1 < 0))) || (decide (p0.1 ≤ p1))) || (decide (p3 < p0.2.1))) || (decide (p0.2.2.1 < p4))) || (decide (p4 ≤ p3))) = true then (
  some true)
  else (
  (M.f34 fuel p0 p1) >>= fun v_8 =>
  (M.f34 fuel ((p0.1, p3, p4, p0.2.2.2.1, p0.2.2.2.2) : S_api_Roster) p1) >>= fun v_10 =>
  (if (((v_8.2.2 != 0) || (v_10.2.2 != 0)) || (v_8.2.1 && (!v_10.2.1))) = true then (
  some false)
  else (
  (M.f35 fuel p0 p1 p2) >>= fun v_12 =>
  (guardO (v_12 == 0) (M.f35 fuel ((p0.1, p3, p4, p0.2.2.2.1, p0.2.2.2.2) : S_api_Roster) p1 p2)) >>= fun v_14 =>
  (guardO (!((v_12 == 0) && (v_14 != 0))) (M.f25 fuel ((p0.1, p3, p4, p0.2.2.2.1, p0.2.2.2.2) : S_api_Roster) p1 p2)) >>= fun v_16 =>
  (guardO ((!((v_12 == 0) && (v_14 != 0))) && (v_16 == 0)) (M.f35 fuel p0 p1 v_8.1)) >>= fun v_18 =>
  (if (((v_12 == 0) && (v_14 != 0)) || ((v_16 == 0) && (v_18 == 0))) = true then (
  some false)
  else (
  (if (!v_8.2.1) = true then (
  some true)
  else (
  (M.f35 fuel ((p0.1, p3, p4, p0.2.2.2.1, p0.2.2.2.2) : S_api_Roster) p1 v_8.1) >>= fun v_20 =>
  (if (v_20 != 0) = true then (
  some false)
  else (
  (M.f53 p0 v_8.1) >>= fun v_22 =>
  (M.f53 ((p0.1, p3, p4, p0.2.2.2.1, p0.2.2.2.2) : S_api_Roster) v_10.1) >>= fun v_24 =>
  some (((v_22.2 == 0) && (v_24.2 == 0)) && (decide (v_24.1 ≤ v_22.1)))))))))))))))

end Go.Proofs.YthogdhepjcomjaaGreatDoor.M
