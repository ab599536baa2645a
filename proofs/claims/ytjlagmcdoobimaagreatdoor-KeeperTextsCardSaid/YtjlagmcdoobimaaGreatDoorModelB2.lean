/-
  Models of Go functions, written by program; nothing is claimed here.
-/
import Derived.Test.YtjlagmcdoobimaaGreatDoorModelB1
namespace Go.Proofs.YtjlagmcdoobimaaGreatDoor.M
open Go Go.Proofs.YtjlagmcdoobimaaGreatDoor Go.Proofs.YtjlagmcdoobimaaGreatDoor.Wh

/-- waterhour/keeper.CheckPath -/
def f20 (p0 : S_api_Market) (p1 : List Int) (p2 : Int) (p3 : Int) (p4 : Int) (p5 : List Int) : Option Int :=
  (M.f29 p0 p1 ((([p2, p3] : List Int), ([p4] : List Int)) : S_keeper_numbers)) >>= fun v_1 =>
  (if (v_1 != 0) = true then (
  some v_1)
  else (
  (guardO (!((decide ((p5.length : Int) < 1)) || (decide (64 < (p5.length : Int))))) (idx p5 0)) >>= fun v_3 =>
  (guardO (!(((decide ((p5.length : Int) < 1)) || (decide (64 < (p5.length : Int)))) || (v_3 != p2))) (idx p5 (wr ((p5.length : Int) - 1)))) >>= fun v_5 =>
  (if ((((decide ((p5.length : Int) < 1)) || (decide (64 < (p5.length : Int)))) || (v_3 != p2)) || (v_5 != p3)) = true then (
  some 32)
  else (
  (M.f31 p1) >>= fun v_7 =>
  (M.f46 p0 v_7) >>= fun v_9 =>
  (forM (ρ := Int) 0 (p5.length : Int) (0 : Int) fun i_11 s_13 =>
    (idx p5 i_11) >>= fun v_17 =>
    (if ((decide (v_17 < 0)) || (decide (p0.1 ≤ v_17))) = true then (
    some (.leave 32))
    else (
    (if (decide (0 < i_11)) = true then (
    (idx p5 (wr (i_11 - 1))) >>= fun v_21 =>
    (idx v_9 v_21) >>= fun v_23 =>
    (idx v_23 v_17) >>= fun v_25 =>
    some (wr (s_13 + v_25)))
    else (
    some s_13)) >>= fun y_20 =>
    some (.again y_20)))) >>= fun o_14 => Out.elim o_14 (fun s_13 =>
    (if (decide (p4 < s_13)) = true then (
    some 32)
    else (
    some 0))) (fun p_27 =>
    some p_27)))))

/-- waterhour/waterhourlaw08.sane -/
def f4 (fuel : Nat)  : Option Bool :=
  (M.f9 ) >>= fun v_1 =>
  (M.f10 v_1 ([0, 1] : List Int) 0 2) >>= fun v_3 =>
  (M.f11 v_1 0 2 20) >>= fun v_5 =>
  (M.f11 v_1 0 2 19) >>= fun v_7 =>
  (M.f11 v_1 0 2 4) >>= fun v_9 =>
  (guardO (!(((v_3.1 != 20) || (!v_3.2.1)) || (v_3.2.2 != 0))) (M.f12 v_5.1 ([0, 1] : List Int))) >>= fun v_11 =>
  (guardO (!((((((v_3.1 != 20) || (!v_3.2.1)) || (v_3.2.2 != 0)) || (!v_11)) || (!v_5.2.1)) || (v_5.2.2 != 0))) (M.f12 v_7.1 ([2] : List Int))) >>= fun v_13 =>
  (if (((((((((((v_3.1 != 20) || (!v_3.2.1)) || (v_3.2.2 != 0)) || (!v_11)) || (!v_5.2.1)) || (v_5.2.2 != 0)) || (!v_13)) || (!v_7.2.1)) || (v_7.2.2 != 0)) || v_9.2.1) || (v_9.2.2 != 0)) = true then (
  some false)
  else (
  (M.f13 v_1 0) >>= fun v_15 =>
  (M.f14 v_1 15) >>= fun v_17 =>
  (M.f15 v_1 ([0, 1] : List Int) 0 2 ([] : List S_api_Span) ([((0, 10) : S_api_Span), (((-3), 7) : S_api_Span)] : List S_api_Span)) >>= fun v_19 =>
  (M.f16 v_1 0 2 20 0) >>= fun v_21 =>
  (guardO (!(v_15.2 != 0)) (M.f17 fuel v_15.1 ([([(#v[0, 0] : Vector Int 2)] : List (Vector Int 2)), ([(#v[5, 10] : Vector Int 2)] : List (Vector Int 2)), ([(#v[9, 20] : Vector Int 2), (#v[12, 5] : Vector Int 2)] : List (Vector Int 2))] : List (List (Vector Int 2))))) >>= fun v_23 =>
  (guardO (!((v_15.2 != 0) || (!v_23))) (M.f12 v_17.1 ([1, 2] : List Int))) >>= fun v_25 =>
  (if (((((((((((v_15.2 != 0) || (!v_23)) || (!v_25)) || (!v_17.2.1)) || (v_17.2.2 != 0)) || (v_19.1 != (((-3), 17) : S_api_Span))) || (!v_19.2.1)) || (v_19.2.2 != 0)) || (v_21.1 != 3)) || (!v_21.2.1)) || (v_21.2.2 != 0)) = true then (
  some false)
  else (
  (M.f18 v_1 0 1 10) >>= fun v_27 =>
  (M.f19 v_1 0 2 11) >>= fun v_29 =>
  (guardO (v_27.2 == 0) (M.f12 v_27.1 ([0] : List Int))) >>= fun v_31 =>
  (guardO (((((v_27.2 == 0) && v_31) && (v_29.1 == 20)) && v_29.2.1) && (v_29.2.2 == 0)) (M.f20 v_1 ([0, 1] : List Int) 0 2 20 ([0, 1, 2] : List Int))) >>= fun v_33 =>
  (guardO ((((((v_27.2 == 0) && v_31) && (v_29.1 == 20)) && v_29.2.1) && (v_29.2.2 == 0)) && (v_33 == 0)) (M.f20 v_1 ([0, 1] : List Int) 0 2 19 ([0, 1, 2] : List Int))) >>= fun v_35 =>
  (guardO (((((((v_27.2 == 0) && v_31) && (v_29.1 == 20)) && v_29.2.1) && (v_29.2.2 == 0)) && (v_33 == 0)) && (v_35 == 32)) (M.f21 ((0, [], []) : S_api_Market))) >>= fun v_37 =>
  some ((((((((v_27.2 == 0) && v_31) && (v_29.1 == 20)) && v_29.2.1) && (v_29.2.2 == 0)) && (v_33 == 0)) && (v_35 == 32)) && (v_37 == 80))))))

end Go.Proofs.YtjlagmcdoobimaaGreatDoor.M
