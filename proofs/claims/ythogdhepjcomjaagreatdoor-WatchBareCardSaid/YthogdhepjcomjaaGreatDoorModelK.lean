/-
  Models of Go functions, written by program; nothing is claimed here.
-/
import Derived.Test.YthogdhepjcomjaaGreatDoorModelH
namespace Go.Proofs.YthogdhepjcomjaaGreatDoor.M
open Go Go.Proofs.YthogdhepjcomjaaGreatDoor Go.Proofs.YthogdhepjcomjaaGreatDoor.Wh

/-- waterhour/waterhourref07.lists -/
def f107 (fuel : Nat) (p0 : S_api_Roster) (p1 : Int) (p2 : List Int) : Option Int :=
  (M.f75 fuel p0 p1) >>= fun v_1 =>
  (if (v_1 != 0) = true then (
  some v_1)
  else (
  (M.f96 fuel p0 p1 p2) >>= fun v_3 =>
  (if (!v_3) = true then (
  some 1)
  else (
  (if (decide (8 < (p2.length : Int))) = true then (
  some 2)
  else (
  some 0))))))

/-- waterhour/waterhourref07.tight -/
def f108 (fuel : Nat) (p0 : List (List Int)) (p1 : Int) (p2 : Int) (p3 : Int) : Option ((List (List Int)) × Bool) :=
  (loopM (ρ := (List (List Int))) (fun s_1 : Int × (List (List Int)) =>
    (if (decide (s_1.1 < (p0.length : Int))) = true then (
    (loopM (ρ := (List Int)) (fun s_6 : Int × (List Int) =>
      (if (decide (s_6.1 < (p0.length : Int))) = true then (
      (idx p0 s_1.1) >>= fun v_11 =>
      (idx v_11 s_6.1) >>= fun v_13 =>
      (idx p0 s_1.1) >>= fun v_15 =>
      (idx v_15 p1) >>= fun v_17 =>
      (idx p0 p2) >>= fun v_19 =>
      (idx v_19 s_6.1) >>= fun v_21 =>
      (app s_6.2 ([(imin v_13 (wr ((wr (v_17 + p3)) + v_21)))] : List Int)) >>= fun z_23 =>
      some (.again ((wr (s_6.1 + 1)), z_23)))
      else (
      some (.leave s_6.2)))) fuel ((0, ([] : List Int)) : Int × (List Int))) >>= fun o_7 =>
    (fun p_29 =>
      (app s_1.2 ([p_29] : List (List Int))) >>= fun z_30 =>
      some (.again ((wr (s_1.1 + 1)), z_30))) o_7)
    else (
    some (.leave s_1.2)))) fuel ((0, ([] : List (List Int))) : Int × (List (List Int)))) >>= fun o_2 =>
  (fun p_43 =>
    (loopM (ρ := (Unit ⊕ ((List (List Int)) × Bool))) (fun s_44 : Int =>
      (if (decide (s_44 < (p0.length : Int))) = true then (
      (idx p_43 s_44) >>= fun v_48 =>
      (idx v_48 s_44) >>= fun v_50 =>
      (if (decide (v_50 < 0)) = true then (
      some (.leave (.inr (([] : List (List Int)), false))))
      else (
      some (.again (wr (s_44 + 1))))))
      else (
      some (.leave (.inl ()))))) fuel (0 : Int)) >>= fun o_45 =>
    (fun x_ => sumE x_ (fun _p_52 =>
      some (p_43, true)) (fun p_53 =>
      some (p_53.1, p_53.2))) o_45) o_2

/-- waterhour/waterhourref07.free -/
def f109 : Nat → S_api_Roster → (List (List Int)) → (List Int) → Option Bool
  | 0, _, _, _ => none
  | fuel + 1, p0, p1, p2 =>
    (if ((p2.length : Int) == 0) = true then (
    some true)
    else (
    (idx p2 0) >>= fun v_1 =>
    (idx p0.2.2.2.2 v_1) >>= fun v_3 =>
    (M.f108 fuel p1 ((v_3 : S_api_Turn).2.1) (p0.2.2.2.1.length : Int) (wr ((v_3 : S_api_Turn).2.2.1 - 1))) >>= fun v_6 =>
    (guardO v_6.2 (cutF p2 1)) >>= fun z_8 =>
    (guardO v_6.2 (f109 fuel p0 v_6.1 z_8)) >>= fun v_10 =>
    (if (v_6.2 && v_10) = true then (
    some true)
    else (
    (M.f108 fuel p1 (p0.2.2.2.1.length : Int) ((v_3 : S_api_Turn).2.2.2.1) (wr (0 - (v_3 : S_api_Turn).2.2.2.2.1))) >>= fun v_12 =>
    (guardO v_12.2 (cutF p2 1)) >>= fun z_14 =>
    (guardO v_12.2 (f109 fuel p0 v_12.1 z_14)) >>= fun v_16 =>
    some (v_12.2 && v_16)))))

/-- waterhour/waterhourref07.Bare -/
def f30 (fuel : Nat) (p0 : S_api_Roster) (p1 : Int) (p2 : List Int) : Option (Bool × Int) :=
  (M.f107 fuel p0 p1 p2) >>= fun v_1 =>
  (if (v_1 != 0) = true then (
  some (false, v_1))
  else (
  (loopM (ρ := (List (List Int))) (fun s_3 : Int × (List (List Int)) =>
    (if (decide (s_3.1 ≤ (p0.2.2.2.1.length : Int))) = true then (
    (loopM (ρ := (List Int)) (fun s_8 : Int × (List Int) =>
      (if (decide (s_8.1 ≤ (p0.2.2.2.1.length : Int))) = true then (
      (if ((decide (s_3.1 < (p0.2.2.2.1.length : Int))) && (decide (s_8.1 < (p0.2.2.2.1.length : Int)))) = true then (
      (idx p0.2.2.2.1 s_3.1) >>= fun v_15 =>
      (idx v_15 s_8.1) >>= fun v_17 =>
      some v_17)
      else (
      some 1099511627776)) >>= fun y_14 =>
      (if (s_3.1 == s_8.1) = true then (
      some 0)
      else (
      some y_14)) >>= fun y_20 =>
      (app s_8.2 ([y_20] : List Int)) >>= fun z_21 =>
      some (.again ((wr (s_8.1 + 1)), z_21)))
      else (
      some (.leave s_8.2)))) fuel ((0, ([] : List Int)) : Int × (List Int))) >>= fun o_9 =>
    (fun p_27 =>
      (app s_3.2 ([p_27] : List (List Int))) >>= fun z_28 =>
      some (.again ((wr (s_3.1 + 1)), z_28))) o_9)
    else (
    some (.leave s_3.2)))) fuel ((0, ([] : List (List Int))) : Int × (List (List Int)))) >>= fun o_4 =>
  (fun p_37 =>
    (M.f108 fuel p_37 0 (p0.2.2.2.1.length : Int) (wr (p0.2.2.1 - 1))) >>= fun v_38 =>
    (M.f108 fuel v_38.1 (p0.2.2.2.1.length : Int) 0 (wr (0 - p0.2.1))) >>= fun v_40 =>
    (M.f109 fuel p0 v_40.1 p2) >>= fun v_42 =>
    some (v_42, 0)) o_4))

/-- waterhour/waterhourref07.CheckBare -/
def f31 (fuel : Nat) (p0 : S_api_Roster) (p1 : Int) (p2 : List Int) (p3 : List Int) : Option Int :=
  (M.f107 fuel p0 p1 p2) >>= fun v_1 =>
  (if (v_1 != 0) = true then (
  some v_1)
  else (
  (M.f110 fuel p0 p3) >>= fun v_3 =>
  (if (v_3 != 0) = true then (
  some v_3)
  else (
  (idx p3 0) >>= fun v_5 =>
  (guardO (!(decide (v_5 < p0.2.1))) (idx p3 0)) >>= fun v_7 =>
  (if ((decide (v_5 < p0.2.1)) || (decide (p0.2.2.1 ≤ v_7))) = true then (
  some 61)
  else (
  (loopM (ρ := (Unit ⊕ Int)) (fun s_9 : Int =>
    (if (decide (s_9 < (p2.length : Int))) = true then (
    (idx p2 s_9) >>= fun v_13 =>
    (idx p0.2.2.2.2 v_13) >>= fun v_15 =>
    (M.f111 v_15 p3) >>= fun v_17 =>
    (if v_17 = true then (
    some (.leave (.inr 61)))
    else (
    some (.again (wr (s_9 + 1))))))
    else (
    some (.leave (.inl ()))))) fuel (0 : Int)) >>= fun o_10 =>
  (fun x_ => sumE x_ (fun _p_19 =>
    some 0) (fun p_20 =>
    some p_20)) o_10))))))

/-- waterhour/waterhourlaw07.WatchBare -/
def f4 (fuel : Nat) (p0 : S_api_Roster) (p1 : Int) (p2 : List Int) (p3 : List Int) : Option Bool :=
  (M.f16 fuel ) >>= fun v_1 =>
  (if (!v_1) = true then (
  some false)
  else (
  (M.f17 p0 ([p2, p3] : List (List Int))) >>= fun v_3 =>
  (if (!v_3) = true then (
  some true)
  else (
  (M.f29 fuel p0 p1 p2) >>= fun v_5 =>
  (M.f30 fuel p0 p1 p2) >>= fun v_7 =>
  (guardO ((!((v_5.2.1 != v_7.1) || (v_5.2.2 != v_7.2))) && v_5.2.1) (M.f31 fuel p0 p1 p2 v_5.1)) >>= fun v_9 =>
  (if ((((v_5.2.1 != v_7.1) || (v_5.2.2 != v_7.2)) || (v_5.2.1 && (v_9 != 0))) || ((!v_5.2.1) && ((v_5.1.length : Int) != 0))) = true then (
  some false)
  else (
  (M.f32 p0 p1 p2 p3) >>= fun v_11 =>
  (M.f31 fuel p0 p1 p2 p3) >>= fun v_13 =>
  some (v_11 == v_13)))))))

end Go.Proofs.YthogdhepjcomjaaGreatDoor.M
