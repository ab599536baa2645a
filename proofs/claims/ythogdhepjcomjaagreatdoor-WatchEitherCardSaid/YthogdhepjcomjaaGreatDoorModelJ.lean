/-
  Models of Go functions, written by program; nothing is claimed here.
-/
import Derived.Test.YthogdhepjcomjaaGreatDoorModelE
namespace Go.Proofs.YthogdhepjcomjaaGreatDoor.M
open Go Go.Proofs.YthogdhepjcomjaaGreatDoor Go.Proofs.YthogdhepjcomjaaGreatDoor.Wh

/-- waterhour/waterhourlaw07.WatchEither -/
def f5 (fuel : Nat) (p0 : S_api_Roster) (p1 : Int) (p2 : List Int) (p3 : List Int) : Option Bool :=
  (M.f16 fuel ) >>= fun v_1 =>
  (if (!v_1) = true then (
  some false)
  else (
  (M.f33 fuel p0) >>= fun v_3 =>
  (guardO (!(!v_3)) (M.f17 p0 ([p2, p3] : List (List Int)))) >>= fun v_5 =>
  (if ((((!v_3) || (!v_5)) || (decide (p1 < 0))) || (decide (p0.1 ≤ p1))) = true then (
  some true)
  else (
  (M.f34 fuel p0 p1) >>= fun v_7 =>
  (M.f20 fuel p0 p1) >>= fun v_9 =>
  (guardO ((!(((v_7.2.2 != 0) || (v_9.2.2 != 0)) || (v_7.2.1 == v_9.2.1))) && v_7.2.1) (M.f35 fuel p0 p1 v_7.1)) >>= fun v_11 =>
  (guardO ((!((((v_7.2.2 != 0) || (v_9.2.2 != 0)) || (v_7.2.1 == v_9.2.1)) || (v_7.2.1 && (v_11 != 0)))) && v_9.2.1) (M.f25 fuel p0 p1 v_9.1)) >>= fun v_13 =>
  (if (((((v_7.2.2 != 0) || (v_9.2.2 != 0)) || (v_7.2.1 == v_9.2.1)) || (v_7.2.1 && (v_11 != 0))) || (v_9.2.1 && (v_13 != 0))) = true then (
  some false)
  else (
  (M.f35 fuel p0 p1 p2) >>= fun v_15 =>
  (M.f25 fuel p0 p1 p3) >>= fun v_17 =>
  some (((!(v_15 == 0)) || v_7.2.1) && ((!(v_17 == 0)) || v_9.2.1))))))))

end Go.Proofs.YthogdhepjcomjaaGreatDoor.M
