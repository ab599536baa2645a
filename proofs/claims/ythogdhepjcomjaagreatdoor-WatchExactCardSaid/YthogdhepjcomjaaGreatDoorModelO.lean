/-
  Models of Go functions, written by program; nothing is claimed here.
-/
import Derived.Test.YthogdhepjcomjaaGreatDoorModelH
namespace Go.Proofs.YthogdhepjcomjaaGreatDoor.M
open Go Go.Proofs.YthogdhepjcomjaaGreatDoor Go.Proofs.YthogdhepjcomjaaGreatDoor.Wh

/-- waterhour/watch.Needed$1 -/
def f125 (fuel : Nat) (p0 : Int) (c0 : S_api_Roster) (c1 : Int) : Option Bool :=
  (M.f74 fuel c0 c1 p0) >>= fun v_1 =>
  (M.f77 c0 v_1) >>= fun v_3 =>
  some (!v_3)

/-- waterhour/watch.Needed -/
def f55 (fuel : Nat) (p0 : S_api_Roster) (p1 : Int) : Option ((List Int) × Int) :=
  (M.f73 p0 p1) >>= fun v_1 =>
  (if (v_1 != 0) = true then (
  some (([] : List Int), v_1))
  else (
  (M.f74 fuel p0 p1 (-1)) >>= fun v_3 =>
  (M.f77 p0 v_3) >>= fun v_5 =>
  (if (!v_5) = true then (
  some (([] : List Int), 4))
  else (
  (M.f90 p0 p1 ((fun x0 => M.f125 fuel x0 p0 p1) : (Int → Option Bool))) >>= fun v_7 =>
  some (v_7, 0)))))

end Go.Proofs.YthogdhepjcomjaaGreatDoor.M
