/-
  Models of Go functions, written by program; nothing is claimed here.
-/
import Derived.Test.YtjlagmcdoobimaaGreatDoorData
import Derived.Test.YtjlagmcdoobimaaGreatDoorGivenM
namespace Go.Proofs.YtjlagmcdoobimaaGreatDoor.M
open Go Go.Proofs.YtjlagmcdoobimaaGreatDoor Go.Proofs.YtjlagmcdoobimaaGreatDoor.Wh

/-- cmp.isNaN[int] -/
def f80 (p0 : Int) : Option Bool :=
  some (p0 != p0)

/-- cmp.Compare[int] -/
def f61 (p0 : Int) (p1 : Int) : Option Int :=
  (M.f80 p0) >>= fun v_1 =>
  (M.f80 p1) >>= fun v_3 =>
  (if v_1 = true then (
  (if v_3 = true then (
  some 0)
  else (
  some (-1))))
  else (
  (if v_3 = true then (
  some 1)
  else (
  (if (decide (p0 < p1)) = true then (
  some (-1))
  else (
  (if (decide (p1 < p0)) = true then (
  some 1)
  else (
  some 0))))))))

/-- cmp.Or[int] -/
def f60 (p0 : List Int) : Option Int :=
  (forM (ρ := Int) 0 (p0.length : Int) (() : Unit) fun i_1 _s_3 =>
    (idx p0 i_1) >>= fun v_7 =>
    (if (v_7 != 0) = true then (
    some (.leave v_7))
    else (
    some (.again ())))) >>= fun o_4 => Out.elim o_4 (fun _s_3 =>
    some 0) (fun p_9 =>
    some p_9)

/-- waterhour/keeper.fronts$1 -/
def f59 (p0 : Vector Int 2) (p1 : Vector Int 2) : Option Int :=
  (idxA p0 0) >>= fun v_1 =>
  (idxA p1 0) >>= fun v_3 =>
  (M.f61 v_1 v_3) >>= fun v_5 =>
  (idxA p0 1) >>= fun v_7 =>
  (idxA p1 1) >>= fun v_9 =>
  (M.f61 v_7 v_9) >>= fun v_11 =>
  (M.f60 ([v_5, v_11] : List Int)) >>= fun v_13 =>
  some v_13

end Go.Proofs.YtjlagmcdoobimaaGreatDoor.M
