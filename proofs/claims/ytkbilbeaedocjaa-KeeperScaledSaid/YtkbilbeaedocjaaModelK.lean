/-
  Models of Go functions, written by program; nothing is claimed here.
-/
import Derived.Test.YtkbilbeaedocjaaModelC
namespace Go.Proofs.Ytkbilbeaedocjaa.M
open Go Go.Proofs.Ytkbilbeaedocjaa Go.Proofs.Ytkbilbeaedocjaa.Wh

/-- waterhour/keeper.Tree -/
def f29 (p0 : S_api_Market) : Option ((List Int) × Bool × Int) :=
  (M.f41 p0) >>= fun v_1 =>
  (if (v_1 != 0) = true then (
  some (([] : List Int), false, v_1))
  else (
  (M.f87 p0 1099511627775) >>= fun v_3 =>
  (M.f78 v_3 p0) >>= fun v_5 =>
  (M.f85 v_5) >>= fun v_7 =>
  some (v_7.1, v_7.2.1, v_7.2.2)))

/-- slices.IndexFunc[[][]int,[]int] -/
def f126 (p0 : List (List Int)) (p1 : ((List Int) → Option Bool)) : Option Int :=
  (forM (ρ := Int) 0 (p0.length : Int) (() : Unit) fun i_1 s_3 =>
    (idx p0 i_1) >>= fun v_7 =>
    (p1 v_7) >>= fun v_9 =>
    (if v_9 = true then (
    some (.leave i_1))
    else (
    some (.again ())))) >>= fun o_4 => Out.elim o_4 (fun s_3 =>
    some (-1)) (fun p_11 =>
    some p_11)

/-- slices.ContainsFunc[[][]int,[]int] -/
def f106 (p0 : List (List Int)) (p1 : ((List Int) → Option Bool)) : Option Bool :=
  (M.f126 p0 p1) >>= fun v_1 =>
  some (decide (0 ≤ v_1))

/-- waterhour/waterhourlaw08.short$1 -/
def f107 (p0 : List Int) : Option Bool :=
  some (decide (100 < (p0.length : Int)))

/-- waterhour/waterhourlaw08.short -/
def f55 (p0 : List (List Int)) : Option Bool :=
  (M.f106 p0 (fun x0 => M.f107 x0)) >>= fun v_1 =>
  some (!v_1)

/-- waterhour/keeper.Cost -/
def f37 (p0 : S_api_Market) (p1 : List Int) : Option (Int × Int) :=
  (M.f76 p0 p1 (([], []) : S_keeper_numbers)) >>= fun v_1 =>
  (if (v_1 != 0) = true then (
  some (0, v_1))
  else (
  (M.f92 p1) >>= fun v_3 =>
  (M.f82 v_3 p0) >>= fun v_5 =>
  some (v_5, 0)))

/-- waterhour/waterhourlaw08.asked$1 -/
def f90 (p0 : Int) (c0 : S_api_Market) : Option Bool :=
  some ((decide (p0 < 0)) || (decide (c0.1 ≤ p0)))

/-- slices.IndexFunc[[]int,int] -/
def f121 (p0 : List Int) (p1 : (Int → Option Bool)) : Option Int :=
  (forM (ρ := Int) 0 (p0.length : Int) (() : Unit) fun i_1 s_3 =>
    (idx p0 i_1) >>= fun v_7 =>
    (p1 v_7) >>= fun v_9 =>
    (if v_9 = true then (
    some (.leave i_1))
    else (
    some (.again ())))) >>= fun o_4 => Out.elim o_4 (fun s_3 =>
    some (-1)) (fun p_11 =>
    some p_11)

/-- slices.ContainsFunc[[]int,int] -/
def f89 (p0 : List Int) (p1 : (Int → Option Bool)) : Option Bool :=
  (M.f121 p0 p1) >>= fun v_1 =>
  some (decide (0 ≤ v_1))

/-- waterhour/waterhourlaw08.asked -/
def f31 (fuel : Nat) (p0 : S_api_Market) (p1 : List Int) (p2 : List Int) : Option Bool :=
  (M.f17 p0) >>= fun v_1 =>
  (guardO (!(!v_1)) (M.f55 ([p1] : List (List Int)))) >>= fun v_3 =>
  (guardO (!((!v_1) || (!v_3))) (M.f41 p0)) >>= fun v_5 =>
  (guardO (!(((!v_1) || (!v_3)) || (v_5 != 0))) (M.f42 fuel p0)) >>= fun v_7 =>
  (guardO (!((((!v_1) || (!v_3)) || (v_5 != 0)) || (v_7 != 0))) (M.f88 fuel p0 p1)) >>= fun v_9 =>
  (if (((((!v_1) || (!v_3)) || (v_5 != 0)) || (v_7 != 0)) || (!v_9)) = true then (
  some false)
  else (
  (M.f89 p2 ((fun x0 => M.f90 x0 p0) : (Int → Option Bool))) >>= fun v_11 =>
  some (!v_11)))

/-- slices.IndexFunc[[][2]int,[2]int] -/
def f38 (p0 : List (Vector Int 2)) (p1 : ((Vector Int 2) → Option Bool)) : Option Int :=
  (forM (ρ := Int) 0 (p0.length : Int) (() : Unit) fun i_1 s_3 =>
    (idx p0 i_1) >>= fun v_7 =>
    (p1 v_7) >>= fun v_9 =>
    (if v_9 = true then (
    some (.leave i_1))
    else (
    some (.again ())))) >>= fun o_4 => Out.elim o_4 (fun s_3 =>
    some (-1)) (fun p_11 =>
    some p_11)

end Go.Proofs.Ytkbilbeaedocjaa.M
