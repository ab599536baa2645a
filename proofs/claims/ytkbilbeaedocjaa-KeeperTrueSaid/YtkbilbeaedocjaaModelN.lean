/-
  Models of Go functions, written by program; nothing is claimed here.
-/
import Derived.Test.YtkbilbeaedocjaaModelE
import Derived.Test.YtkbilbeaedocjaaModelP
namespace Go.Proofs.Ytkbilbeaedocjaa.M
open Go Go.Proofs.Ytkbilbeaedocjaa Go.Proofs.Ytkbilbeaedocjaa.Wh

/-- waterhour/waterhourref08.step -/
def f114 (fuel : Nat) (p0 : List S_api_Offer) (p1 : Int) (p2 : Int) : Option Int :=
  (loopM (ρ := Int) (fun s_1 : Int × Int =>
    (if (decide (s_1.2 < (p0.length : Int))) = true then (
    (idx p0 s_1.2) >>= fun v_5 =>
    (guardO (v_5.1 == p1) (idx p0 s_1.2)) >>= fun v_7 =>
    (guardO (!((v_5.1 == p1) && (v_7.2.1 == p2))) (idx p0 s_1.2)) >>= fun v_9 =>
    (guardO ((!((v_5.1 == p1) && (v_7.2.1 == p2))) && (v_9.1 == p2)) (idx p0 s_1.2)) >>= fun v_11 =>
    (if (((v_5.1 == p1) && (v_7.2.1 == p2)) || ((v_9.1 == p2) && (v_11.2.1 == p1))) = true then (
    (idx p0 s_1.2) >>= fun v_15 =>
    some (imin s_1.1 v_15.2.2.2))
    else (
    some s_1.1)) >>= fun y_14 =>
    some (.again (y_14, (wr (s_1.2 + 1)))))
    else (
    some (.leave s_1.1)))) fuel ((1099511627776, 0) : Int × Int)) >>= fun o_2 =>
  (fun p_17 =>
    some p_17) o_2

/-- waterhour/waterhourref08.CheckPath -/
def f65 (fuel : Nat) (p0 : S_api_Market) (p1 : List Int) (p2 : Int) (p3 : Int) (p4 : Int) (p5 : List Int) : Option Int :=
  (M.f72 fuel p0 p1 p4 ([p2, p3] : List Int)) >>= fun v_1 =>
  (if (v_1 != 0) = true then (
  some v_1)
  else (
  (guardO (!((decide ((p5.length : Int) < 1)) || (decide (64 < (p5.length : Int))))) (idx p5 0)) >>= fun v_3 =>
  (guardO (!(((decide ((p5.length : Int) < 1)) || (decide (64 < (p5.length : Int)))) || (v_3 != p2))) (idx p5 (wr ((p5.length : Int) - 1)))) >>= fun v_5 =>
  (if ((((decide ((p5.length : Int) < 1)) || (decide (64 < (p5.length : Int)))) || (v_3 != p2)) || (v_5 != p3)) = true then (
  some 32)
  else (
  (M.f102 fuel p0 p1) >>= fun v_7 =>
  (loopM (ρ := (Int ⊕ Int)) (fun s_9 : Int × Int =>
    (if (decide (s_9.2 < (p5.length : Int))) = true then (
    (idx p5 (wr (s_9.2 - 1))) >>= fun v_13 =>
    (idx p5 s_9.2) >>= fun v_15 =>
    (M.f114 fuel v_7 v_13 v_15) >>= fun v_17 =>
    (if (decide (1099511627776 ≤ v_17)) = true then (
    some (.leave (.inr 32)))
    else (
    some (.again ((wr (s_9.1 + v_17)), (wr (s_9.2 + 1)))))))
    else (
    some (.leave (.inl s_9.1))))) fuel ((0, 1) : Int × Int)) >>= fun o_10 =>
  (fun x_ => sumE x_ (fun p_19 =>
    (if (decide (p4 < p_19)) = true then (
    some 32)
    else (
    some 0))) (fun p_20 =>
    some p_20)) o_10))))

/-- waterhour/waterhourlaw08.KeeperPaths -/
def f14 (fuel : Nat) (p0 : S_api_Market) (p1 : List Int) (p2 : Int) (p3 : Int) (p4 : Int) (p5 : List Int) : Option Bool :=
  (M.f16 fuel ) >>= fun v_1 =>
  (if (!v_1) = true then (
  some false)
  else (
  (M.f17 p0) >>= fun v_3 =>
  (guardO (!(!v_3)) (M.f55 ([p1, p5] : List (List Int)))) >>= fun v_5 =>
  (if ((!v_3) || (!v_5)) = true then (
  some true)
  else (
  (M.f64 p0 p1 p2 p3 p4 p5) >>= fun v_7 =>
  (M.f65 fuel p0 p1 p2 p3 p4 p5) >>= fun v_9 =>
  (if (v_7 != v_9) = true then (
  some false)
  else (
  (M.f66 fuel p0 p1 p2 p3) >>= fun v_11 =>
  (M.f56 fuel p0 p1 p2 p3) >>= fun v_13 =>
  (if (v_13.2.2 != 0) = true then (
  some ((v_11.2 == v_13.2.2) && ((v_11.1.length : Int) == 0)))
  else (
  (if (!v_13.2.1) = true then (
  some ((v_11.2 == 4) && ((v_11.1.length : Int) == 0)))
  else (
  (guardO (v_11.2 == 0) (M.f65 fuel p0 p1 p2 p3 v_13.1 v_11.1)) >>= fun v_15 =>
  some ((v_11.2 == 0) && (v_15 == 0))))))))))))

end Go.Proofs.Ytkbilbeaedocjaa.M
