/-
  Models of Go functions, written by program; nothing is claimed here.
-/
import Derived.Test.YtkbilbeaedocjaaModelK
namespace Go.Proofs.Ytkbilbeaedocjaa.M
open Go Go.Proofs.Ytkbilbeaedocjaa Go.Proofs.Ytkbilbeaedocjaa.Wh

/-- waterhour/waterhourref08.Before -/
def f119 (fuel : Nat) (p0 : S_api_Market) (p1 : List Int) (p2 : List Int) : Option Bool :=
  (M.f81 fuel p0 p1) >>= fun v_1 =>
  (M.f81 fuel p0 p2) >>= fun v_3 =>
  (if (v_1 != v_3) = true then (
  some (decide (v_1 < v_3)))
  else (
  (if ((p1.length : Int) != (p2.length : Int)) = true then (
  some (decide ((p1.length : Int) < (p2.length : Int))))
  else (
  (loopM (ρ := (Unit ⊕ Bool)) (fun s_5 : Int =>
    (if (decide (s_5 < (p1.length : Int))) = true then (
    (idx p1 s_5) >>= fun v_9 =>
    (idx p2 s_5) >>= fun v_11 =>
    (if (v_9 != v_11) = true then (
    (idx p1 s_5) >>= fun v_13 =>
    (idx p2 s_5) >>= fun v_15 =>
    some (.leave (.inr (decide (v_13 < v_15)))))
    else (
    some (.again (wr (s_5 + 1))))))
    else (
    some (.leave (.inl ()))))) fuel (0 : Int)) >>= fun o_6 =>
  (fun x_ => sumE x_ (fun p_17 =>
    some false) (fun p_18 =>
    some p_18)) o_6))))

/-- waterhour/waterhourref08.least -/
def f86 (fuel : Nat) (p0 : S_api_Market) (p1 : Int) (p2 : Int) (p3 : Int) : Option ((List Int) × Bool) :=
  (loopM (ρ := ((List Int) × Bool)) (fun s_1 : (List Int) × Bool × Int =>
    (shl 1 (p0.2.2.length : Int)) >>= fun v_5 =>
    (if (decide (s_1.2.2 < v_5)) = true then (
    (M.f74 fuel p0 s_1.2.2) >>= fun v_7 =>
    (guardO (!(!s_1.2.1)) (M.f119 fuel p0 v_7 s_1.1)) >>= fun v_9 =>
    (guardO ((!s_1.2.1) || v_9) (M.f73 fuel p0 v_7 p1 p2 p3)) >>= fun v_11 =>
    (if (((!s_1.2.1) || v_9) && v_11) = true then (
    some (v_7, true))
    else (
    some (s_1.1, s_1.2.1))) >>= fun (y_14, y_15) =>
    some (.again (y_14, y_15, (wr (s_1.2.2 + 1)))))
    else (
    some (.leave (s_1.1, s_1.2.1))))) fuel ((([] : List Int), false, 0) : (List Int) × Bool × Int)) >>= fun o_2 =>
  (fun p_16 =>
    some (p_16.1, p_16.2)) o_2

/-- waterhour/waterhourref08.Best -/
def f26 (fuel : Nat) (p0 : S_api_Market) (p1 : Int) (p2 : Int) (p3 : Int) : Option ((List Int) × Bool × Int) :=
  (M.f72 fuel p0 ([] : List Int) p3 ([p1, p2] : List Int)) >>= fun v_1 =>
  (if (v_1 != 0) = true then (
  some (([] : List Int), false, v_1))
  else (
  (M.f86 fuel p0 p1 p2 p3) >>= fun v_3 =>
  some (v_3.1, v_3.2, 0)))

/-- waterhour/waterhourref08.Together -/
def f28 (fuel : Nat) (p0 : S_api_Market) (p1 : Int) : Option ((List Int) × Bool × Int) :=
  (M.f72 fuel p0 ([] : List Int) p1 ([] : List Int)) >>= fun v_1 =>
  (if (v_1 != 0) = true then (
  some (([] : List Int), false, v_1))
  else (
  (M.f86 fuel p0 (-1) (-1) p1) >>= fun v_3 =>
  some (v_3.1, v_3.2, 0)))

/-- waterhour/waterhourref08.Tree -/
def f30 (fuel : Nat) (p0 : S_api_Market) : Option ((List Int) × Bool × Int) :=
  (M.f72 fuel p0 ([] : List Int) 0 ([] : List Int)) >>= fun v_1 =>
  (if (v_1 != 0) = true then (
  some (([] : List Int), false, v_1))
  else (
  (M.f86 fuel p0 (-1) (-1) 1099511627776) >>= fun v_3 =>
  some (v_3.1, v_3.2, 0)))

/-- waterhour/waterhourlaw08.KeeperBest -/
def f4 (fuel : Nat) (p0 : S_api_Market) (p1 : Int) (p2 : Int) (p3 : Int) : Option Bool :=
  (M.f16 fuel ) >>= fun v_1 =>
  (if (!v_1) = true then (
  some false)
  else (
  (M.f17 p0) >>= fun v_3 =>
  (if (!v_3) = true then (
  some true)
  else (
  (M.f25 p0 p1 p2 p3) >>= fun v_5 =>
  (M.f26 fuel p0 p1 p2 p3) >>= fun v_7 =>
  (M.f24 v_5.1 v_7.1) >>= fun v_9 =>
  (if (((!v_9) || (v_5.2.1 != v_7.2.1)) || (v_5.2.2 != v_7.2.2)) = true then (
  some false)
  else (
  (M.f27 p0 p3) >>= fun v_11 =>
  (M.f28 fuel p0 p3) >>= fun v_13 =>
  (M.f24 v_11.1 v_13.1) >>= fun v_15 =>
  (if (((!v_15) || (v_11.2.1 != v_13.2.1)) || (v_11.2.2 != v_13.2.2)) = true then (
  some false)
  else (
  (M.f29 p0) >>= fun v_17 =>
  (M.f30 fuel p0) >>= fun v_19 =>
  (M.f24 v_17.1 v_19.1) >>= fun v_21 =>
  some ((v_21 && (v_17.2.1 == v_19.2.1)) && (v_17.2.2 == v_19.2.2))))))))))

end Go.Proofs.Ytkbilbeaedocjaa.M
