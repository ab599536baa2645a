/-
  Models of Go functions, written by program; nothing is claimed here.
-/
import Derived.Test.YthogdhepjcomjaaGreatDoorModelE
namespace Go.Proofs.YthogdhepjcomjaaGreatDoor.M
open Go Go.Proofs.YthogdhepjcomjaaGreatDoor Go.Proofs.YthogdhepjcomjaaGreatDoor.Wh

/-- waterhour/waterhourref07.IsPlan -/
def f129 (fuel : Nat) (p0 : S_api_Roster) (p1 : Int) (p2 : List Int) : Option Bool :=
  (guardO (!((p2.length : Int) == 0)) (M.f96 fuel p0 p1 p2)) >>= fun v_1 =>
  (guardO (!(((p2.length : Int) == 0) || (!v_1))) (idx p2 0)) >>= fun v_3 =>
  (guardO (!(((p2.length : Int) == 0) || (!v_1))) (M.f83 p0 v_3)) >>= fun v_5 =>
  (guardO (!((((p2.length : Int) == 0) || (!v_1)) || (!v_5))) (idx p2 (wr ((p2.length : Int) - 1)))) >>= fun v_7 =>
  (guardO (!((((p2.length : Int) == 0) || (!v_1)) || (!v_5))) (M.f98 p0 v_7)) >>= fun v_9 =>
  (if (((((p2.length : Int) == 0) || (!v_1)) || (!v_5)) || (!v_9)) = true then (
  some false)
  else (
  (loopM (ρ := (Unit ⊕ Bool)) (fun s_11 : Int =>
    (if (decide (s_11 < (p2.length : Int))) = true then (
    (idx p2 (wr (s_11 - 1))) >>= fun v_15 =>
    (idx p2 s_11) >>= fun v_17 =>
    (M.f84 p0 v_15 v_17) >>= fun v_19 =>
    (if (!v_19) = true then (
    some (.leave (.inr false)))
    else (
    some (.again (wr (s_11 + 1))))))
    else (
    some (.leave (.inl ()))))) fuel (1 : Int)) >>= fun o_12 =>
  (fun x_ => sumE x_ (fun _p_21 =>
    some true) (fun p_22 =>
    some p_22)) o_12))

end Go.Proofs.YthogdhepjcomjaaGreatDoor.M
