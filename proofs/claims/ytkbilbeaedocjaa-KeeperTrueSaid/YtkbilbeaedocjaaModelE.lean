/-
  Models of Go functions, written by program; nothing is claimed here.
-/
import Derived.Test.YtkbilbeaedocjaaModelK
namespace Go.Proofs.Ytkbilbeaedocjaa.M
open Go Go.Proofs.Ytkbilbeaedocjaa Go.Proofs.Ytkbilbeaedocjaa.Wh

/-- waterhour/waterhourref08.Width -/
def f56 (fuel : Nat) (p0 : S_api_Market) (p1 : List Int) (p2 : Int) (p3 : Int) : Option (Int × Bool × Int) :=
  (M.f72 fuel p0 p1 0 ([p2, p3] : List Int)) >>= fun v_1 =>
  (if (v_1 != 0) = true then (
  some (0, false, v_1))
  else (
  (M.f84 fuel p0 p1 p2 p3) >>= fun v_3 =>
  (if (decide (1099511627776 ≤ v_3)) = true then (
  some (0, false, 0))
  else (
  some (v_3, true, 0)))))

/-- waterhour/waterhourref08.Cost -/
def f57 (fuel : Nat) (p0 : S_api_Market) (p1 : List Int) : Option (Int × Int) :=
  (M.f72 fuel p0 p1 0 ([] : List Int)) >>= fun v_1 =>
  (if (v_1 != 0) = true then (
  some (0, v_1))
  else (
  (M.f81 fuel p0 p1) >>= fun v_3 =>
  some (v_3, 0)))

/-- waterhour/keeper.Widths -/
def f58 (p0 : S_api_Market) (p1 : List Int) : Option ((List (List Int)) × Int) :=
  (M.f76 p0 p1 (([], []) : S_keeper_numbers)) >>= fun v_1 =>
  (if (v_1 != 0) = true then (
  some (([] : List (List Int)), v_1))
  else (
  (M.f92 p1) >>= fun v_3 =>
  (M.f83 p0 v_3) >>= fun v_5 =>
  (forS 0 p0.1 (([] : List (List Int)) : (List (List Int))) fun i_7 s_9 =>
    (forS 0 p0.1 (([] : List Int) : (List Int)) fun i_14 s_16 =>
      (idx v_5 i_7) >>= fun v_21 =>
      (idx v_21 i_14) >>= fun v_23 =>
      (if (decide (1099511627776 ≤ v_23)) = true then (
      (app s_16 ([(-1)] : List Int)) >>= fun z_28 =>
      some z_28)
      else (
      (idx v_5 i_7) >>= fun v_31 =>
      (idx v_31 i_14) >>= fun v_33 =>
      (app s_16 ([v_33] : List Int)) >>= fun z_35 =>
      some z_35)) >>= fun y_26 =>
      some y_26) >>= fun s_16 =>
    (app s_9 ([s_16] : List (List Int))) >>= fun z_38 =>
    some z_38) >>= fun s_9 =>
  some (s_9, 0)))

/-- waterhour/waterhourref08.Widths -/
def f59 (fuel : Nat) (p0 : S_api_Market) (p1 : List Int) : Option ((List (List Int)) × Int) :=
  (M.f72 fuel p0 p1 0 ([] : List Int)) >>= fun v_1 =>
  (if (v_1 != 0) = true then (
  some (([] : List (List Int)), v_1))
  else (
  (M.f102 fuel p0 p1) >>= fun v_3 =>
  (M.f101 fuel p0.1 v_3) >>= fun m_5 =>
  (loopM (ρ := (List (List Int))) (fun s_9 : Int × (List (List Int)) =>
    (if (decide (s_9.1 < p0.1)) = true then (
    (loopM (ρ := (List (List Int))) (fun s_13 : Int × (List (List Int)) =>
      (if (decide (s_13.1 < p0.1)) = true then (
      (idx s_13.2 s_9.1) >>= fun v_17 =>
      (idx v_17 s_13.1) >>= fun v_19 =>
      (if (decide (1099511627776 ≤ v_19)) = true then (
      (idx s_13.2 s_9.1) >>= fun v_23 =>
      (idx v_23 s_13.1) >>= fun v_25 =>
      (set2 s_13.2 s_9.1 s_13.1 (-1)) >>= fun z_27 =>
      some z_27)
      else (
      some s_13.2)) >>= fun y_22 =>
      some (.again ((wr (s_13.1 + 1)), y_22)))
      else (
      some (.leave s_13.2)))) fuel ((0, s_9.2) : Int × (List (List Int)))) >>= fun o_14 =>
    (fun p_29 =>
      some (.again ((wr (s_9.1 + 1)), p_29))) o_14)
    else (
    some (.leave s_9.2)))) fuel ((0, m_5) : Int × (List (List Int)))) >>= fun o_10 =>
  (fun p_30 =>
    some (p_30, 0)) o_10))

/-- waterhour/waterhourref08.SameRows -/
def f60 (fuel : Nat) (p0 : List (List Int)) (p1 : List (List Int)) : Option Bool :=
  (if ((p0.length : Int) != (p1.length : Int)) = true then (
  some false)
  else (
  (loopM (ρ := (Unit ⊕ Bool)) (fun s_1 : Int =>
    (if (decide (s_1 < (p0.length : Int))) = true then (
    (idx p0 s_1) >>= fun v_5 =>
    (idx p1 s_1) >>= fun v_7 =>
    (if ((v_5.length : Int) != (v_7.length : Int)) = true then (
    some (.leave (.inr false)))
    else (
    (loopM (ρ := (Unit ⊕ Bool)) (fun s_9 : Int =>
      (idx p0 s_1) >>= fun v_13 =>
      (if (decide (s_9 < (v_13.length : Int))) = true then (
      (idx p0 s_1) >>= fun v_15 =>
      (idx v_15 s_9) >>= fun v_17 =>
      (idx p1 s_1) >>= fun v_19 =>
      (idx v_19 s_9) >>= fun v_21 =>
      (if (v_17 != v_21) = true then (
      some (.leave (.inr false)))
      else (
      some (.again (wr (s_9 + 1))))))
      else (
      some (.leave (.inl ()))))) fuel (0 : Int)) >>= fun o_10 =>
    (fun x_ => sumE x_ (fun p_23 =>
      some (.again (wr (s_1 + 1)))) (fun p_24 =>
      some (.leave (.inr p_24)))) o_10)))
    else (
    some (.leave (.inl ()))))) fuel (0 : Int)) >>= fun o_2 =>
  (fun x_ => sumE x_ (fun p_25 =>
    some true) (fun p_26 =>
    some p_26)) o_2))

/-- waterhour/waterhourlaw08.KeeperForms -/
def f12 (fuel : Nat) (p0 : S_api_Market) (p1 : List Int) (p2 : Int) (p3 : Int) : Option Bool :=
  (M.f16 fuel ) >>= fun v_1 =>
  (if (!v_1) = true then (
  some false)
  else (
  (M.f17 p0) >>= fun v_3 =>
  (guardO (!(!v_3)) (M.f55 ([p1] : List (List Int)))) >>= fun v_5 =>
  (if ((!v_3) || (!v_5)) = true then (
  some true)
  else (
  (M.f33 p0 p1 p2 p3) >>= fun v_7 =>
  (M.f56 fuel p0 p1 p2 p3) >>= fun v_9 =>
  (M.f37 p0 p1) >>= fun v_11 =>
  (M.f57 fuel p0 p1) >>= fun v_13 =>
  (M.f58 p0 p1) >>= fun v_15 =>
  (M.f59 fuel p0 p1) >>= fun v_17 =>
  (M.f41 p0) >>= fun v_19 =>
  (M.f42 fuel p0) >>= fun v_21 =>
  (guardO ((((((v_19 == v_21) && (v_7.1 == v_9.1)) && (v_7.2.1 == v_9.2.1)) && (v_7.2.2 == v_9.2.2)) && (v_11.1 == v_13.1)) && (v_11.2 == v_13.2)) (M.f60 fuel v_15.1 v_17.1)) >>= fun v_23 =>
  some ((((((((v_19 == v_21) && (v_7.1 == v_9.1)) && (v_7.2.1 == v_9.2.1)) && (v_7.2.2 == v_9.2.2)) && (v_11.1 == v_13.1)) && (v_11.2 == v_13.2)) && v_23) && (v_15.2 == v_17.2))))))

end Go.Proofs.Ytkbilbeaedocjaa.M
