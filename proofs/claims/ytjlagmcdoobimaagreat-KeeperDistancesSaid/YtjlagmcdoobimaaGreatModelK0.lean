/-
  Models of Go functions, written by program; nothing is claimed here.
-/
import Derived.Test.YtjlagmcdoobimaaGreatModelB2
namespace Go.Proofs.YtjlagmcdoobimaaGreat.M
open Go Go.Proofs.YtjlagmcdoobimaaGreat Go.Proofs.YtjlagmcdoobimaaGreat.Wh

/-- waterhour/waterhourlaw08.few -/
def f26 (p0 : S_api_Market) : Option Bool :=
  some (((decide ((p0.2.2.length : Int) ≤ 6)) || ((decide (12 < (p0.2.2.length : Int))) && (decide ((p0.2.2.length : Int) ≤ 20)))) && (decide ((p0.2.1.length : Int) ≤ 30)))

/-- slices.IndexFunc[[][]int,[]int] -/
def f35 (p0 : List (List Int)) (p1 : ((List Int) → Option Bool)) : Option Int :=
  (forM (ρ := Int) 0 (p0.length : Int) (() : Unit) fun i_1 _s_3 =>
    (idx p0 i_1) >>= fun v_7 =>
    (p1 v_7) >>= fun v_9 =>
    (if v_9 = true then (
    some (.leave i_1))
    else (
    some (.again ())))) >>= fun o_4 => Out.elim o_4 (fun _s_3 =>
    some (-1)) (fun p_11 =>
    some p_11)

/-- slices.ContainsFunc[[][]int,[]int] -/
def f7 (p0 : List (List Int)) (p1 : ((List Int) → Option Bool)) : Option Bool :=
  (M.f35 p0 p1) >>= fun v_1 =>
  some (decide (0 ≤ v_1))

/-- waterhour/waterhourlaw08.short$1 -/
def f56 (p0 : List Int) : Option Bool :=
  some (decide (100 < (p0.length : Int)))

/-- waterhour/waterhourlaw08.short -/
def f27 (p0 : List (List Int)) : Option Bool :=
  (M.f7 p0 (fun x0 => M.f56 x0)) >>= fun v_1 =>
  some (!v_1)

/-- waterhour/waterhourref08.within -/
def f57 (p0 : Int) (p1 : Int) (p2 : Int) : Option Bool :=
  some ((decide (p1 ≤ p0)) && (decide (p0 ≤ p2)))

/-- waterhour/waterhourref08.isOffer -/
def f58 (p0 : S_api_Offer) (p1 : Int) (p2 : Int) : Option Bool :=
  (M.f57 p0.1 0 (wr (p1 - 1))) >>= fun v_1 =>
  (guardO v_1 (M.f57 p0.2.1 0 (wr (p1 - 1)))) >>= fun v_3 =>
  (guardO ((v_1 && v_3) && (p0.1 != p0.2.1)) (M.f57 p0.2.2.1 0 p2)) >>= fun v_5 =>
  (guardO (((v_1 && v_3) && (p0.1 != p0.2.1)) && v_5) (M.f57 p0.2.2.2 0 1048576)) >>= fun v_7 =>
  some ((((v_1 && v_3) && (p0.1 != p0.2.1)) && v_5) && v_7)

/-- waterhour/waterhourref08.Check -/
def f28 (fuel : Nat) (p0 : S_api_Market) : Option Int :=
  (M.f57 p0.1 2 8) >>= fun v_1 =>
  (if (((!v_1) || (decide (24 < (p0.2.1.length : Int)))) || (decide (12 < (p0.2.2.length : Int)))) = true then (
  some 80)
  else (
  (loopM (ρ := (Unit ⊕ Int)) (fun s_3 : Int =>
    (if (decide (s_3 < (p0.2.1.length : Int))) = true then (
    (idx p0.2.1 s_3) >>= fun v_7 =>
    (M.f58 v_7 p0.1 0) >>= fun v_9 =>
    (if (!v_9) = true then (
    some (.leave (.inr 80)))
    else (
    some (.again (wr (s_3 + 1))))))
    else (
    some (.leave (.inl ()))))) fuel (0 : Int)) >>= fun o_4 =>
  (fun x_ => sumE x_ (fun _p_21 =>
    (loopM (ρ := (Unit ⊕ Int)) (fun s_22 : Int =>
      (if (decide (s_22 < (p0.2.2.length : Int))) = true then (
      (idx p0.2.2 s_22) >>= fun v_26 =>
      (M.f58 v_26 p0.1 10000) >>= fun v_28 =>
      (if (!v_28) = true then (
      some (.leave (.inr 80)))
      else (
      some (.again (wr (s_22 + 1))))))
      else (
      some (.leave (.inl ()))))) fuel (0 : Int)) >>= fun o_23 =>
    (fun x_ => sumE x_ (fun _p_30 =>
      some 0) (fun p_31 =>
      some p_31)) o_23) (fun p_32 =>
    some p_32)) o_4))

/-- waterhour/waterhourref08.Right -/
def f29 (fuel : Nat) (p0 : S_api_Market) (p1 : List Int) : Option Bool :=
  (loopM (ρ := (Unit ⊕ Bool)) (fun s_1 : Int =>
    (if (decide (s_1 < (p1.length : Int))) = true then (
    (idx p1 s_1) >>= fun v_5 =>
    (M.f57 v_5 0 (wr ((p0.2.2.length : Int) - 1))) >>= fun v_7 =>
    (guardO ((!(!v_7)) && (decide (0 < s_1))) (idx p1 (wr (s_1 - 1)))) >>= fun v_9 =>
    (guardO ((!(!v_7)) && (decide (0 < s_1))) (idx p1 s_1)) >>= fun v_11 =>
    (if ((!v_7) || ((decide (0 < s_1)) && (decide (v_11 ≤ v_9)))) = true then (
    some (.leave (.inr false)))
    else (
    some (.again (wr (s_1 + 1))))))
    else (
    some (.leave (.inl ()))))) fuel (0 : Int)) >>= fun o_2 =>
  (fun x_ => sumE x_ (fun _p_13 =>
    some true) (fun p_14 =>
    some p_14)) o_2

/-- waterhour/waterhourlaw08.asked$1 -/
def f31 (p0 : Int) (c0 : S_api_Market) : Option Bool :=
  some ((decide (p0 < 0)) || (decide (c0.1 ≤ p0)))

/-- slices.IndexFunc[[]int,int] -/
def f59 (p0 : List Int) (p1 : (Int → Option Bool)) : Option Int :=
  (forM (ρ := Int) 0 (p0.length : Int) (() : Unit) fun i_1 _s_3 =>
    (idx p0 i_1) >>= fun v_7 =>
    (p1 v_7) >>= fun v_9 =>
    (if v_9 = true then (
    some (.leave i_1))
    else (
    some (.again ())))) >>= fun o_4 => Out.elim o_4 (fun _s_3 =>
    some (-1)) (fun p_11 =>
    some p_11)

/-- slices.ContainsFunc[[]int,int] -/
def f30 (p0 : List Int) (p1 : (Int → Option Bool)) : Option Bool :=
  (M.f59 p0 p1) >>= fun v_1 =>
  some (decide (0 ≤ v_1))

/-- waterhour/waterhourlaw08.asked -/
def f5 (fuel : Nat) (p0 : S_api_Market) (p1 : List Int) (p2 : List Int) : Option Bool :=
  (M.f26 p0) >>= fun v_1 =>
  (guardO (!(!v_1)) (M.f27 ([p1] : List (List Int)))) >>= fun v_3 =>
  (guardO (!((!v_1) || (!v_3))) (M.f25 p0)) >>= fun v_5 =>
  (guardO (!(((!v_1) || (!v_3)) || (v_5 != 0))) (M.f28 fuel p0)) >>= fun v_7 =>
  (guardO (!((((!v_1) || (!v_3)) || (v_5 != 0)) || (v_7 != 0))) (M.f29 fuel p0 p1)) >>= fun v_9 =>
  (if (((((!v_1) || (!v_3)) || (v_5 != 0)) || (v_7 != 0)) || (!v_9)) = true then (
  some false)
  else (
  (M.f30 p2 ((fun x0 => M.f31 x0 p0) : (Int → Option Bool))) >>= fun v_11 =>
  some (!v_11)))

end Go.Proofs.YtjlagmcdoobimaaGreat.M
