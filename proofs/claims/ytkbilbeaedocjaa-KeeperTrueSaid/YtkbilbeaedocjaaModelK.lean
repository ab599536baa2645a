/-
  Models of Go functions, written by program; nothing is claimed here.
-/
import Derived.Test.YtkbilbeaedocjaaModelC
namespace Go.Proofs.Ytkbilbeaedocjaa.M
open Go Go.Proofs.Ytkbilbeaedocjaa Go.Proofs.Ytkbilbeaedocjaa.Wh

/-- waterhour/keeper.Tree -/
def f29 (p0 : S_api_Market) : Option ((List Int) × Bool × Int) :=
  (M.f41 p0) >>= fun v_1 =>
  (if (v_1 != 0) = true then (
  some (([] : List Int), false, v_1))
  else (
  (M.f87 p0 1099511627775) >>= fun v_3 =>
  (M.f78 v_3 p0) >>= fun v_5 =>
  (M.f85 v_5) >>= fun v_7 =>
  some (v_7.1, v_7.2.1, v_7.2.2)))

/-- waterhour/keeper.Cost -/
def f37 (p0 : S_api_Market) (p1 : List Int) : Option (Int × Int) :=
  (M.f76 p0 p1 (([], []) : S_keeper_numbers)) >>= fun v_1 =>
  (if (v_1 != 0) = true then (
  some (0, v_1))
  else (
  (M.f92 p1) >>= fun v_3 =>
  (M.f82 v_3 p0) >>= fun v_5 =>
  some (v_5, 0)))

/-- slices.IndexFunc[[][2]int,[2]int] -/
def f38 (p0 : List (Vector Int 2)) (p1 : ((Vector Int 2) → Option Bool)) : Option Int :=
  (forM (ρ := Int) 0 (p0.length : Int) (() : Unit) fun i_1 s_3 =>
    (idx p0 i_1) >>= fun v_7 =>
    (p1 v_7) >>= fun v_9 =>
    (if v_9 = true then (
    some (.leave i_1))
    else (
    some (.again ())))) >>= fun o_4 => Out.elim o_4 (fun s_3 =>
    some (-1)) (fun p_11 =>
    some p_11)

end Go.Proofs.Ytkbilbeaedocjaa.M
