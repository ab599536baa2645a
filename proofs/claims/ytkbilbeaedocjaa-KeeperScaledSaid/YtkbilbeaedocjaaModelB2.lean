/-
  Models of Go functions, written by program; nothing is claimed here.
-/
import Derived.Test.YtkbilbeaedocjaaModelB1
namespace Go.Proofs.Ytkbilbeaedocjaa.M
open Go Go.Proofs.Ytkbilbeaedocjaa Go.Proofs.Ytkbilbeaedocjaa.Wh

/-- waterhour/waterhourref08.SameFronts -/
def f36 (fuel : Nat) (p0 : List (List (Vector Int 2))) (p1 : List (List (Vector Int 2))) : Option Bool :=
  (if ((p0.length : Int) != (p1.length : Int)) = true then (
  some false)
  else (
  (loopM (ρ := (Unit ⊕ Bool)) (fun s_1 : Int =>
    (if (decide (s_1 < (p0.length : Int))) = true then (
    (idx p0 s_1) >>= fun v_5 =>
    (idx p1 s_1) >>= fun v_7 =>
    (if ((v_5.length : Int) != (v_7.length : Int)) = true then (
    some (.leave (.inr false)))
    else (
    (loopM (ρ := (Unit ⊕ Bool)) (fun s_9 : Int =>
      (idx p0 s_1) >>= fun v_13 =>
      (if (decide (s_9 < (v_13.length : Int))) = true then (
      (idx p0 s_1) >>= fun v_15 =>
      (idx v_15 s_9) >>= fun v_17 =>
      (idx p1 s_1) >>= fun v_19 =>
      (idx v_19 s_9) >>= fun v_21 =>
      (if (v_17 != v_21) = true then (
      some (.leave (.inr false)))
      else (
      some (.again (wr (s_9 + 1))))))
      else (
      some (.leave (.inl ()))))) fuel (0 : Int)) >>= fun o_10 =>
    (fun x_ => sumE x_ (fun p_23 =>
      some (.again (wr (s_1 + 1)))) (fun p_24 =>
      some (.leave (.inr p_24)))) o_10)))
    else (
    some (.leave (.inl ()))))) fuel (0 : Int)) >>= fun o_2 =>
  (fun x_ => sumE x_ (fun p_25 =>
    some true) (fun p_26 =>
    some p_26)) o_2))

/-- waterhour/keeper.Needed -/
def f18 (p0 : S_api_Market) (p1 : Int) (p2 : Int) (p3 : Int) : Option ((List Int) × Int) :=
  (M.f69 p0 p1 p2 p3) >>= fun v_1 =>
  (if (v_1 != 0) = true then (
  some (([] : List Int), v_1))
  else (
  (M.f70 p0 p1 p2 p3) >>= fun v_3 =>
  (forS 0 (p0.2.2.length : Int) (([] : List Int) : (List Int)) fun i_5 s_7 =>
    (M.f71 p0) >>= fun v_12 =>
    (shl 1 i_5) >>= fun v_14 =>
    (v_3.1 (bclr v_12 v_14)) >>= fun v_16 =>
    (if (!v_16) = true then (
    (app s_7 ([i_5] : List Int)) >>= fun z_21 =>
    some z_21)
    else (
    some s_7)) >>= fun y_19 =>
    some y_19) >>= fun s_7 =>
  some (s_7, 0)))

/-- waterhour/keeper.Least -/
def f22 (p0 : S_api_Market) (p1 : Int) (p2 : Int) (p3 : Int) : Option (Int × Bool × Int) :=
  (M.f76 p0 ([] : List Int) ((([p1, p2] : List Int), ([p3] : List Int)) : S_keeper_numbers)) >>= fun v_1 =>
  (if (v_1 != 0) = true then (
  some (0, false, v_1))
  else (
  (shl 1 (p0.2.2.length : Int)) >>= fun v_3 =>
  (forS 0 v_3 (1099511627776 : Int) fun i_5 s_7 =>
    (M.f82 i_5 p0) >>= fun v_11 =>
    (if (decide (v_11 ≤ p3)) = true then (
    (M.f83 p0 i_5) >>= fun v_15 =>
    (idx v_15 p1) >>= fun v_17 =>
    (idx v_17 p2) >>= fun v_19 =>
    some (imin s_7 v_19))
    else (
    some s_7)) >>= fun y_14 =>
    some y_14) >>= fun s_7 =>
  (if (decide (1099511627776 ≤ s_7)) = true then (
  some (0, false, 0))
  else (
  some (s_7, true, 0)))))

/-- waterhour/keeper.CheckPath -/
def f64 (p0 : S_api_Market) (p1 : List Int) (p2 : Int) (p3 : Int) (p4 : Int) (p5 : List Int) : Option Int :=
  (M.f76 p0 p1 ((([p2, p3] : List Int), ([p4] : List Int)) : S_keeper_numbers)) >>= fun v_1 =>
  (if (v_1 != 0) = true then (
  some v_1)
  else (
  (guardO (!((decide ((p5.length : Int) < 1)) || (decide (64 < (p5.length : Int))))) (idx p5 0)) >>= fun v_3 =>
  (guardO (!(((decide ((p5.length : Int) < 1)) || (decide (64 < (p5.length : Int)))) || (v_3 != p2))) (idx p5 (wr ((p5.length : Int) - 1)))) >>= fun v_5 =>
  (if ((((decide ((p5.length : Int) < 1)) || (decide (64 < (p5.length : Int)))) || (v_3 != p2)) || (v_5 != p3)) = true then (
  some 32)
  else (
  (M.f92 p1) >>= fun v_7 =>
  (M.f113 p0 v_7) >>= fun v_9 =>
  (forM (ρ := Int) 0 (p5.length : Int) (0 : Int) fun i_11 s_13 =>
    (idx p5 i_11) >>= fun v_17 =>
    (if ((decide (v_17 < 0)) || (decide (p0.1 ≤ v_17))) = true then (
    some (.leave 32))
    else (
    (if (decide (0 < i_11)) = true then (
    (idx p5 (wr (i_11 - 1))) >>= fun v_21 =>
    (idx v_9 v_21) >>= fun v_23 =>
    (idx v_23 v_17) >>= fun v_25 =>
    some (wr (s_13 + v_25)))
    else (
    some s_13)) >>= fun y_20 =>
    some (.again y_20)))) >>= fun o_14 => Out.elim o_14 (fun s_13 =>
    (if (decide (p4 < s_13)) = true then (
    some 32)
    else (
    some 0))) (fun p_27 =>
    some p_27)))))

/-- waterhour/waterhourlaw08.sane -/
def f16 (fuel : Nat)  : Option Bool :=
  (M.f68 ) >>= fun v_1 =>
  (M.f33 v_1 ([0, 1] : List Int) 0 2) >>= fun v_3 =>
  (M.f25 v_1 0 2 20) >>= fun v_5 =>
  (M.f25 v_1 0 2 19) >>= fun v_7 =>
  (M.f25 v_1 0 2 4) >>= fun v_9 =>
  (guardO (!(((v_3.1 != 20) || (!v_3.2.1)) || (v_3.2.2 != 0))) (M.f24 v_5.1 ([0, 1] : List Int))) >>= fun v_11 =>
  (guardO (!((((((v_3.1 != 20) || (!v_3.2.1)) || (v_3.2.2 != 0)) || (!v_11)) || (!v_5.2.1)) || (v_5.2.2 != 0))) (M.f24 v_7.1 ([2] : List Int))) >>= fun v_13 =>
  (if (((((((((((v_3.1 != 20) || (!v_3.2.1)) || (v_3.2.2 != 0)) || (!v_11)) || (!v_5.2.1)) || (v_5.2.2 != 0)) || (!v_13)) || (!v_7.2.1)) || (v_7.2.2 != 0)) || v_9.2.1) || (v_9.2.2 != 0)) = true then (
  some false)
  else (
  (M.f34 v_1 0) >>= fun v_15 =>
  (M.f27 v_1 15) >>= fun v_17 =>
  (M.f61 v_1 ([0, 1] : List Int) 0 2 ([] : List S_api_Span) ([((0, 10) : S_api_Span), (((-3), 7) : S_api_Span)] : List S_api_Span)) >>= fun v_19 =>
  (M.f20 v_1 0 2 20 0) >>= fun v_21 =>
  (guardO (!(v_15.2 != 0)) (M.f36 fuel v_15.1 ([([(#v[0, 0] : Vector Int 2)] : List (Vector Int 2)), ([(#v[5, 10] : Vector Int 2)] : List (Vector Int 2)), ([(#v[9, 20] : Vector Int 2), (#v[12, 5] : Vector Int 2)] : List (Vector Int 2))] : List (List (Vector Int 2))))) >>= fun v_23 =>
  (guardO (!((v_15.2 != 0) || (!v_23))) (M.f24 v_17.1 ([1, 2] : List Int))) >>= fun v_25 =>
  (if (((((((((((v_15.2 != 0) || (!v_23)) || (!v_25)) || (!v_17.2.1)) || (v_17.2.2 != 0)) || (v_19.1 != (((-3), 17) : S_api_Span))) || (!v_19.2.1)) || (v_19.2.2 != 0)) || (v_21.1 != 3)) || (!v_21.2.1)) || (v_21.2.2 != 0)) = true then (
  some false)
  else (
  (M.f18 v_1 0 1 10) >>= fun v_27 =>
  (M.f22 v_1 0 2 11) >>= fun v_29 =>
  (guardO (v_27.2 == 0) (M.f24 v_27.1 ([0] : List Int))) >>= fun v_31 =>
  (guardO (((((v_27.2 == 0) && v_31) && (v_29.1 == 20)) && v_29.2.1) && (v_29.2.2 == 0)) (M.f64 v_1 ([0, 1] : List Int) 0 2 20 ([0, 1, 2] : List Int))) >>= fun v_33 =>
  (guardO ((((((v_27.2 == 0) && v_31) && (v_29.1 == 20)) && v_29.2.1) && (v_29.2.2 == 0)) && (v_33 == 0)) (M.f64 v_1 ([0, 1] : List Int) 0 2 19 ([0, 1, 2] : List Int))) >>= fun v_35 =>
  (guardO (((((((v_27.2 == 0) && v_31) && (v_29.1 == 20)) && v_29.2.1) && (v_29.2.2 == 0)) && (v_33 == 0)) && (v_35 == 32)) (M.f41 ((0, [], []) : S_api_Market))) >>= fun v_37 =>
  some ((((((((v_27.2 == 0) && v_31) && (v_29.1 == 20)) && v_29.2.1) && (v_29.2.2 == 0)) && (v_33 == 0)) && (v_35 == 32)) && (v_37 == 80))))))

end Go.Proofs.Ytkbilbeaedocjaa.M
