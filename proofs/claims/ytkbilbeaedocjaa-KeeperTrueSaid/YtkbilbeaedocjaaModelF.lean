/-
  Models of Go functions, written by program; nothing is claimed here.
-/
import Derived.Test.YtkbilbeaedocjaaModelK
namespace Go.Proofs.Ytkbilbeaedocjaa.M
open Go Go.Proofs.Ytkbilbeaedocjaa Go.Proofs.Ytkbilbeaedocjaa.Wh

/-- waterhour/waterhourlaw08.KeeperAll -/
def f9 (fuel : Nat) (p0 : S_api_Market) (p1 : Int) (p2 : Int) (p3 : Int) : Option Bool :=
  (M.f16 fuel ) >>= fun v_1 =>
  (if (!v_1) = true then (
  some false)
  else (
  (M.f31 fuel p0 ([] : List Int) ([p1, p2] : List Int)) >>= fun v_3 =>
  (if (((!v_3) || (decide (p3 < 0))) || (decide (16777216 < p3))) = true then (
  some true)
  else (
  (M.f27 p0 p3) >>= fun v_5 =>
  (M.f25 p0 p1 p2 p3) >>= fun v_7 =>
  (M.f29 p0) >>= fun v_9 =>
  (M.f27 p0 16777216) >>= fun v_11 =>
  (guardO (!((((v_5.2.2 != 0) || (v_7.2.2 != 0)) || (v_9.2.2 != 0)) || (v_11.2.2 != 0))) (M.f24 v_9.1 v_11.1)) >>= fun v_13 =>
  (if ((((((((v_5.2.2 != 0) || (v_7.2.2 != 0)) || (v_9.2.2 != 0)) || (v_11.2.2 != 0)) || (!v_13)) || (v_9.2.1 != v_11.2.1)) || (v_5.2.1 && ((!v_7.2.1) || (!v_9.2.1)))) || (decide (p0.1 ≤ (v_9.1.length : Int)))) = true then (
  some false)
  else (
  (if (!v_5.2.1) = true then (
  some ((v_5.1.length : Int) == 0))
  else (
  (M.f37 p0 v_5.1) >>= fun v_15 =>
  (M.f37 p0 v_7.1) >>= fun v_17 =>
  (M.f37 p0 v_9.1) >>= fun v_19 =>
  (M.f33 p0 v_5.1 p1 p2) >>= fun v_21 =>
  some ((((((((v_15.2 == 0) && (v_17.2 == 0)) && (v_19.2 == 0)) && (v_21.2.2 == 0)) && (decide (v_17.1 ≤ v_15.1))) && (decide (v_19.1 ≤ v_15.1))) && v_21.2.1) && (decide (v_21.1 ≤ p3)))))))))))

/-- slices.Index[[]int,int] -/
def f100 (p0 : List Int) (p1 : Int) : Option Int :=
  (forM (ρ := Int) 0 (p0.length : Int) (() : Unit) fun i_1 s_3 =>
    (idx p0 i_1) >>= fun v_7 =>
    (if (p1 == v_7) = true then (
    some (.leave i_1))
    else (
    some (.again ())))) >>= fun o_4 => Out.elim o_4 (fun s_3 =>
    some (-1)) (fun p_9 =>
    some p_9)

/-- slices.Contains[[]int,int] -/
def f50 (p0 : List Int) (p1 : Int) : Option Bool :=
  (M.f100 p0 p1) >>= fun v_1 =>
  some (decide (0 ≤ v_1))

/-- waterhour/waterhourlaw08.KeeperWorth -/
def f10 (fuel : Nat) (p0 : S_api_Market) (p1 : Int) (p2 : Int) (p3 : Int) (p4 : Int) : Option Bool :=
  (M.f16 fuel ) >>= fun v_1 =>
  (if (!v_1) = true then (
  some false)
  else (
  (M.f31 fuel p0 ([] : List Int) ([p1, p2] : List Int)) >>= fun v_3 =>
  (if (((((!v_3) || (decide (p3 < 0))) || (decide (16777216 < p3))) || (decide (p4 < 0))) || (decide ((p0.2.2.length : Int) ≤ p4))) = true then (
  some true)
  else (
  (M.f25 p0 p1 p2 p3) >>= fun v_5 =>
  (M.f18 p0 p1 p2 p3) >>= fun v_7 =>
  (M.f20 p0 p1 p2 p3 p4) >>= fun v_9 =>
  (if (v_5.2.2 != 0) = true then (
  some false)
  else (
  (if (!v_5.2.1) = true then (
  some ((v_7.2 == 4) && (v_9.2.2 == 4)))
  else (
  (M.f50 v_5.1 p4) >>= fun v_11 =>
  (guardO (!((v_7.2 != 0) || (v_9.2.2 != 0))) (M.f50 v_7.1 p4)) >>= fun v_13 =>
  (if (((((v_7.2 != 0) || (v_9.2.2 != 0)) || (v_13 == v_9.2.1)) || ((!v_9.2.1) && (!v_11))) || (v_9.2.1 && ((v_11 && (decide (v_9.1 < 0))) || ((decide (0 < v_9.1)) && (!v_11))))) = true then (
  some false)
  else (
  (M.f37 p0 v_5.1) >>= fun v_15 =>
  (M.f22 p0 p1 p2 v_15.1) >>= fun v_17 =>
  (if ((((v_15.2 != 0) || (v_17.2.2 != 0)) || (!v_17.2.1)) || (decide (p3 < v_17.1))) = true then (
  some false)
  else (
  (if (v_15.1 == 0) = true then (
  some true)
  else (
  (M.f22 p0 p1 p2 (wr (v_15.1 - 1))) >>= fun v_19 =>
  some ((v_19.2.2 == 0) && ((!v_19.2.1) || (decide (p3 < v_19.1))))))))))))))))))

/-- waterhour/waterhourlaw08.KeeperCheapest$1 -/
def f39 (p0 : Vector Int 2) (c0 : Int) : Option Bool :=
  (idxA p0 1) >>= fun v_1 =>
  some (decide (v_1 ≤ c0))

/-- waterhour/waterhourlaw08.before -/
def f40 (p0 : List Int) (p1 : Int) (p2 : List Int) (p3 : Int) : Option Bool :=
  (if (p1 != p3) = true then (
  some (decide (p1 < p3)))
  else (
  (if ((p0.length : Int) != (p2.length : Int)) = true then (
  some (decide ((p0.length : Int) < (p2.length : Int))))
  else (
  (M.f94 p0 p2) >>= fun v_1 =>
  some (decide (v_1 < 0))))))

/-- waterhour/waterhourlaw08.KeeperCheapest -/
def f6 (fuel : Nat) (p0 : S_api_Market) (p1 : List Int) (p2 : Int) (p3 : Int) (p4 : Int) : Option Bool :=
  (M.f16 fuel ) >>= fun v_1 =>
  (if (!v_1) = true then (
  some false)
  else (
  (M.f31 fuel p0 p1 ([p2, p3] : List Int)) >>= fun v_3 =>
  (if (((!v_3) || (decide (p4 < 0))) || (decide (16777216 < p4))) = true then (
  some true)
  else (
  (M.f25 p0 p2 p3 p4) >>= fun v_5 =>
  (M.f34 p0 p2) >>= fun v_7 =>
  (M.f33 p0 p1 p2 p3) >>= fun v_9 =>
  (M.f37 p0 p1) >>= fun v_11 =>
  (if (((((v_5.2.2 != 0) || (v_7.2 != 0)) || (v_9.2.2 != 0)) || (v_11.2 != 0)) || ((v_7.1.length : Int) != p0.1)) = true then (
  some false)
  else (
  (idx v_7.1 p3) >>= fun v_13 =>
  (M.f38 v_13 ((fun x0 => M.f39 x0 p4) : ((Vector Int 2) → Option Bool))) >>= fun v_15 =>
  (if ((decide (0 ≤ v_15)) != v_5.2.1) = true then (
  some false)
  else (
  (if (!v_5.2.1) = true then (
  some (((v_5.1.length : Int) == 0) && ((!v_9.2.1) || (decide (p4 < v_9.1)))))
  else (
  (M.f37 p0 v_5.1) >>= fun v_17 =>
  (M.f33 p0 v_5.1 p2 p3) >>= fun v_19 =>
  (guardO ((((v_17.2 == 0) && (v_19.2.2 == 0)) && v_19.2.1) && (decide (v_19.1 ≤ p4))) (idx v_7.1 p3)) >>= fun v_21 =>
  (guardO ((((v_17.2 == 0) && (v_19.2.2 == 0)) && v_19.2.1) && (decide (v_19.1 ≤ p4))) (idx v_21 v_15)) >>= fun v_23 =>
  (guardO ((((v_17.2 == 0) && (v_19.2.2 == 0)) && v_19.2.1) && (decide (v_19.1 ≤ p4))) (idxA v_23 0)) >>= fun v_25 =>
  (guardO ((((((v_17.2 == 0) && (v_19.2.2 == 0)) && v_19.2.1) && (decide (v_19.1 ≤ p4))) && (v_17.1 == v_25)) && (!((!v_9.2.1) || (decide (p4 < v_9.1))))) (M.f40 p1 v_11.1 v_5.1 v_17.1)) >>= fun v_27 =>
  some ((((((v_17.2 == 0) && (v_19.2.2 == 0)) && v_19.2.1) && (decide (v_19.1 ≤ p4))) && (v_17.1 == v_25)) && (((!v_9.2.1) || (decide (p4 < v_9.1))) || (!v_27)))))))))))))

end Go.Proofs.Ytkbilbeaedocjaa.M
