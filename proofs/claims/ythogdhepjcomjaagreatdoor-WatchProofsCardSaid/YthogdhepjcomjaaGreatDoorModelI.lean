/-
  Models of Go functions, written by program; nothing is claimed here.
-/
import Derived.Test.YthogdhepjcomjaaGreatDoorModelH
namespace Go.Proofs.YthogdhepjcomjaaGreatDoor.M
open Go Go.Proofs.YthogdhepjcomjaaGreatDoor Go.Proofs.YthogdhepjcomjaaGreatDoor.Wh

/-- waterhour/waterhourref07.reach -/
def f76 (fuel : Nat) (p0 : S_api_Roster) (p1 : Int) : Option (List Int) :=
  (mk (p0.2.2.2.2.length : Int) (false : Bool)) >>= fun q_1 =>
  (loopM (ρ := (List Bool)) (fun s_4 : Bool × (List Bool) =>
    (if s_4.1 = true then (
    (loopM (ρ := (Bool × (List Bool))) (fun s_8 : Bool × Int × (List Bool) =>
      (if (decide (s_8.2.1 < (p0.2.2.2.2.length : Int))) = true then (
      (M.f83 p0 s_8.2.1) >>= fun v_12 =>
      (loopM (ρ := Bool) (fun s_14 : Bool × Int =>
        (if (decide (s_14.2 < (p0.2.2.2.2.length : Int))) = true then (
        (guardO (!s_14.1) (idx s_8.2.2 s_14.2)) >>= fun v_18 =>
        (guardO ((!s_14.1) && v_18) (M.f84 p0 s_14.2 s_8.2.1)) >>= fun v_20 =>
        some (.again ((s_14.1 || (v_18 && v_20)), (wr (s_14.2 + 1)))))
        else (
        some (.leave s_14.1)))) fuel ((v_12, 0) : Bool × Int)) >>= fun o_15 =>
      (fun p_33 =>
        (idx p0.2.2.2.2 s_8.2.1) >>= fun v_34 =>
        (guardO ((v_34.1 == p1) && p_33) (idx s_8.2.2 s_8.2.1)) >>= fun v_36 =>
        (if (((v_34.1 == p1) && p_33) && (!v_36)) = true then (
        (idx s_8.2.2 s_8.2.1) >>= fun _v_41 =>
        (set1 s_8.2.2 s_8.2.1 true) >>= fun z_43 =>
        some (true, z_43))
        else (
        some (s_8.1, s_8.2.2))) >>= fun (y_39, y_40) =>
        some (.again (y_39, (wr (s_8.2.1 + 1)), y_40))) o_15)
      else (
      some (.leave (s_8.1, s_8.2.2))))) fuel ((false, 0, s_4.2) : Bool × Int × (List Bool))) >>= fun o_9 =>
    (fun p_45 =>
      some (.again (p_45.1, p_45.2))) o_9)
    else (
    some (.leave s_4.2)))) fuel ((true, q_1) : Bool × (List Bool))) >>= fun o_5 =>
  (fun p_60 =>
    (loopM (ρ := (List Int)) (fun s_61 : Int × (List Int) =>
      (if (decide (s_61.1 < (p_60.length : Int))) = true then (
      (idx p_60 s_61.1) >>= fun v_66 =>
      (if v_66 = true then (
      (app s_61.2 ([s_61.1] : List Int)) >>= fun z_71 =>
      some z_71)
      else (
      some s_61.2)) >>= fun y_69 =>
      some (.again ((wr (s_61.1 + 1)), y_69)))
      else (
      some (.leave s_61.2)))) fuel ((0, ([] : List Int)) : Int × (List Int))) >>= fun o_62 =>
    (fun p_74 =>
      some p_74) o_62) o_5

/-- waterhour/waterhourref07.Reach -/
def f19 (fuel : Nat) (p0 : S_api_Roster) (p1 : Int) : Option ((List Int) × Int) :=
  (M.f75 fuel p0 p1) >>= fun v_1 =>
  (if (v_1 != 0) = true then (
  some (([] : List Int), v_1))
  else (
  (M.f76 fuel p0 p1) >>= fun v_3 =>
  some (v_3, 0)))

/-- waterhour/waterhourref07.Gap -/
def f21 (fuel : Nat) (p0 : S_api_Roster) (p1 : Int) : Option ((List Int) × Bool × Int) :=
  (M.f75 fuel p0 p1) >>= fun v_1 =>
  (if (v_1 != 0) = true then (
  some (([] : List Int), false, v_1))
  else (
  (M.f78 fuel p0 p1 false) >>= fun v_3 =>
  (if (decide (0 < (v_3.length : Int))) = true then (
  some (([] : List Int), false, 0))
  else (
  (M.f76 fuel p0 p1) >>= fun v_5 =>
  some (v_5, true, 0)))))

/-- waterhour/waterhourref07.Prices -/
def f23 (fuel : Nat) (p0 : S_api_Roster) (p1 : Int) : Option ((List Int) × Int) :=
  (M.f75 fuel p0 p1) >>= fun v_1 =>
  (if (v_1 != 0) = true then (
  some (([] : List Int), v_1))
  else (
  (M.f78 fuel p0 p1 false) >>= fun v_3 =>
  (if ((v_3.length : Int) == 0) = true then (
  some (([] : List Int), 4))
  else (
  (M.f54 fuel p0 v_3) >>= fun v_5 =>
  (loopM (ρ := (List Int)) (fun s_7 : Int × (List Int) =>
    (if (decide (s_7.1 < (p0.2.2.2.2.length : Int))) = true then (
    (idx p0.2.2.2.2 s_7.1) >>= fun v_12 =>
    (if (v_12.1 == p1) = true then (
    some v_5.1)
    else (
    some 0)) >>= fun y_15 =>
    (guardO (v_12.1 == p1) (M.f83 p0 s_7.1)) >>= fun v_16 =>
    (if ((v_12.1 == p1) && v_16) = true then (
    some (imin y_15 v_12.2.2.2.2.2))
    else (
    some y_15)) >>= fun y_19 =>
    (app s_7.2 ([y_19] : List Int)) >>= fun z_20 =>
    some (.again ((wr (s_7.1 + 1)), z_20)))
    else (
    some (.leave s_7.2)))) fuel ((0, ([] : List Int)) : Int × (List Int))) >>= fun o_8 =>
  (fun p_54 =>
    (loopM (ρ := (List Int)) (fun s_55 : Int × (List Int) =>
      (if (decide (s_55.1 < (p0.2.2.2.2.length : Int))) = true then (
      (loopM (ρ := (List Int)) (fun s_59 : Int × (List Int) =>
        (if (decide (s_59.1 < (p0.2.2.2.2.length : Int))) = true then (
        (loopM (ρ := (List Int)) (fun s_63 : Int × (List Int) =>
          (if (decide (s_63.1 < (p0.2.2.2.2.length : Int))) = true then (
          (idx p0.2.2.2.2 s_63.1) >>= fun v_67 =>
          (guardO (v_67.1 == p1) (M.f84 p0 s_59.1 s_63.1)) >>= fun v_69 =>
          (if ((v_67.1 == p1) && v_69) = true then (
          (idx s_63.2 s_63.1) >>= fun v_73 =>
          (idx s_63.2 s_59.1) >>= fun v_75 =>
          (idx p0.2.2.2.2 s_63.1) >>= fun v_77 =>
          (idx s_63.2 s_63.1) >>= fun _v_79 =>
          (set1 s_63.2 s_63.1 (imin v_73 (wr (v_75 + v_77.2.2.2.2.2)))) >>= fun z_81 =>
          some z_81)
          else (
          some s_63.2)) >>= fun y_72 =>
          some (.again ((wr (s_63.1 + 1)), y_72)))
          else (
          some (.leave s_63.2)))) fuel ((0, s_59.2) : Int × (List Int))) >>= fun o_64 =>
        (fun p_83 =>
          some (.again ((wr (s_59.1 + 1)), p_83))) o_64)
        else (
        some (.leave s_59.2)))) fuel ((0, s_55.2) : Int × (List Int))) >>= fun o_60 =>
      (fun p_84 =>
        some (.again ((wr (s_55.1 + 1)), p_84))) o_60)
      else (
      some (.leave s_55.2)))) fuel ((0, p_54) : Int × (List Int))) >>= fun o_56 =>
    (fun p_85 =>
      some (p_85, 0)) o_56) o_8))))

/-- waterhour/waterhourref07.has -/
def f97 (fuel : Nat) (p0 : List Int) (p1 : Int) : Option Bool :=
  (loopM (ρ := (Unit ⊕ Bool)) (fun s_1 : Int =>
    (if (decide (s_1 < (p0.length : Int))) = true then (
    (idx p0 s_1) >>= fun v_5 =>
    (if (v_5 == p1) = true then (
    some (.leave (.inr true)))
    else (
    some (.again (wr (s_1 + 1))))))
    else (
    some (.leave (.inl ()))))) fuel (0 : Int)) >>= fun o_2 =>
  (fun x_ => sumE x_ (fun _p_7 =>
    some false) (fun p_8 =>
    some p_8)) o_2

/-- waterhour/waterhourref07.CheckGap -/
def f26 (fuel : Nat) (p0 : S_api_Roster) (p1 : Int) (p2 : List Int) : Option Int :=
  (M.f75 fuel p0 p1) >>= fun v_1 =>
  (if (v_1 != 0) = true then (
  some v_1)
  else (
  (loopM (ρ := (Unit ⊕ Int)) (fun s_3 : Int =>
    (if (decide (s_3 < (p2.length : Int))) = true then (
    (idx p2 (wr (s_3 - 1))) >>= fun v_7 =>
    (idx p2 s_3) >>= fun v_9 =>
    (if (decide (v_9 ≤ v_7)) = true then (
    some (.leave (.inr 1)))
    else (
    some (.again (wr (s_3 + 1))))))
    else (
    some (.leave (.inl ()))))) fuel (1 : Int)) >>= fun o_4 =>
  (fun x_ => sumE x_ (fun _p_44 =>
    (M.f96 fuel p0 p1 p2) >>= fun v_45 =>
    (if (!v_45) = true then (
    some 1)
    else (
    (loopM (ρ := (Unit ⊕ Int)) (fun s_47 : Int =>
      (if (decide (s_47 < (p0.2.2.2.2.length : Int))) = true then (
      (idx p0.2.2.2.2 s_47) >>= fun v_51 =>
      (if (v_51.1 != p1) = true then (
      some (.again (wr (s_47 + 1))))
      else (
      (M.f83 p0 s_47) >>= fun v_53 =>
      (loopM (ρ := Bool) (fun s_55 : Bool × Int =>
        (if (decide (s_55.2 < (p2.length : Int))) = true then (
        (guardO (!s_55.1) (idx p2 s_55.2)) >>= fun v_59 =>
        (guardO (!s_55.1) (M.f84 p0 v_59 s_47)) >>= fun v_61 =>
        some (.again ((s_55.1 || v_61), (wr (s_55.2 + 1)))))
        else (
        some (.leave s_55.1)))) fuel ((v_53, 0) : Bool × Int)) >>= fun o_56 =>
      (fun p_69 =>
        (guardO p_69 (M.f97 fuel p2 s_47)) >>= fun v_70 =>
        (guardO (!(p_69 && (!v_70))) (M.f97 fuel p2 s_47)) >>= fun v_72 =>
        (guardO ((!(p_69 && (!v_70))) && v_72) (M.f98 p0 s_47)) >>= fun v_74 =>
        (if ((p_69 && (!v_70)) || (v_72 && v_74)) = true then (
        some (.leave (.inr 32)))
        else (
        some (.again (wr (s_47 + 1)))))) o_56)))
      else (
      some (.leave (.inl ()))))) fuel (0 : Int)) >>= fun o_48 =>
    (fun x_ => sumE x_ (fun _p_76 =>
      some 0) (fun p_77 =>
      some p_77)) o_48))) (fun p_78 =>
    some p_78)) o_4))

/-- waterhour/waterhourref07.CheckPrices -/
def f28 (fuel : Nat) (p0 : S_api_Roster) (p1 : Int) (p2 : Int) (p3 : List Int) : Option Int :=
  (M.f75 fuel p0 p1) >>= fun v_1 =>
  (if (v_1 != 0) = true then (
  some v_1)
  else (
  (if (((decide (p2 < 0)) || (decide (1048576 < p2))) || ((p3.length : Int) != (p0.2.2.2.2.length : Int))) = true then (
  some 1)
  else (
  (loopM (ρ := (Unit ⊕ Int)) (fun s_3 : Int =>
    (if (decide (s_3 < (p3.length : Int))) = true then (
    (idx p3 s_3) >>= fun v_7 =>
    (guardO (!(decide (v_7 < 0))) (idx p3 s_3)) >>= fun v_9 =>
    (if ((decide (v_7 < 0)) || (decide (1048576 < v_9))) = true then (
    some (.leave (.inr 1)))
    else (
    some (.again (wr (s_3 + 1))))))
    else (
    some (.leave (.inl ()))))) fuel (0 : Int)) >>= fun o_4 =>
  (fun x_ => sumE x_ (fun _p_43 =>
    (loopM (ρ := (Unit ⊕ Int)) (fun s_44 : Int =>
      (if (decide (s_44 < (p3.length : Int))) = true then (
      (idx p0.2.2.2.2 s_44) >>= fun v_48 =>
      (if (v_48.1 != p1) = true then (
      some (.again (wr (s_44 + 1))))
      else (
      (M.f83 p0 s_44) >>= fun v_50 =>
      (guardO v_50 (idx p3 s_44)) >>= fun v_52 =>
      (guardO v_50 (idx p0.2.2.2.2 s_44)) >>= fun v_54 =>
      (guardO (!(v_50 && (decide (v_54.2.2.2.2.2 < v_52)))) (M.f98 p0 s_44)) >>= fun v_56 =>
      (guardO ((!(v_50 && (decide (v_54.2.2.2.2.2 < v_52)))) && v_56) (idx p3 s_44)) >>= fun v_58 =>
      (if ((v_50 && (decide (v_54.2.2.2.2.2 < v_52))) || (v_56 && (decide (v_58 < p2)))) = true then (
      some (.leave (.inr 32)))
      else (
      (loopM (ρ := (Unit ⊕ Int)) (fun s_60 : Int =>
        (if (decide (s_60 < (p3.length : Int))) = true then (
        (M.f84 p0 s_60 s_44) >>= fun v_64 =>
        (guardO v_64 (idx p3 s_44)) >>= fun v_66 =>
        (guardO v_64 (idx p3 s_60)) >>= fun v_68 =>
        (guardO v_64 (idx p0.2.2.2.2 s_44)) >>= fun v_70 =>
        (if (v_64 && (decide ((wr (v_68 + v_70.2.2.2.2.2)) < v_66))) = true then (
        some (.leave (.inr 32)))
        else (
        some (.again (wr (s_60 + 1))))))
        else (
        some (.leave (.inl ()))))) fuel (0 : Int)) >>= fun o_61 =>
      (fun x_ => sumE x_ (fun _p_72 =>
        some (.again (wr (s_44 + 1)))) (fun p_73 =>
        some (.leave (.inr p_73)))) o_61)))))
      else (
      some (.leave (.inl ()))))) fuel (0 : Int)) >>= fun o_45 =>
    (fun x_ => sumE x_ (fun _p_74 =>
      some 0) (fun p_75 =>
      some p_75)) o_45) (fun p_76 =>
    some p_76)) o_4))))

/-- waterhour/waterhourlaw07.WatchProofs -/
def f3 (fuel : Nat) (p0 : S_api_Roster) (p1 : Int) (p2 : List Int) (p3 : Int) (p4 : List Int) : Option Bool :=
  (M.f16 fuel ) >>= fun v_1 =>
  (if (!v_1) = true then (
  some false)
  else (
  (M.f17 p0 ([p2, p4] : List (List Int))) >>= fun v_3 =>
  (if (!v_3) = true then (
  some true)
  else (
  (M.f18 fuel p0 p1) >>= fun v_5 =>
  (M.f19 fuel p0 p1) >>= fun v_7 =>
  (M.f20 fuel p0 p1) >>= fun v_9 =>
  (M.f21 fuel p0 p1) >>= fun v_11 =>
  (M.f22 fuel p0 p1) >>= fun v_13 =>
  (M.f23 fuel p0 p1) >>= fun v_15 =>
  (M.f24 v_5.1 v_7.1) >>= fun v_17 =>
  (guardO (v_17 && (v_5.2 == v_7.2)) (M.f24 v_9.1 v_11.1)) >>= fun v_19 =>
  (guardO ((((v_17 && (v_5.2 == v_7.2)) && v_19) && (v_9.2.1 == v_11.2.1)) && (v_9.2.2 == v_11.2.2)) (M.f24 v_13.1 v_15.1)) >>= fun v_21 =>
  (guardO ((((((v_17 && (v_5.2 == v_7.2)) && v_19) && (v_9.2.1 == v_11.2.1)) && (v_9.2.2 == v_11.2.2)) && v_21) && (v_13.2 == v_15.2)) (M.f25 fuel p0 p1 p2)) >>= fun v_23 =>
  (guardO ((((((v_17 && (v_5.2 == v_7.2)) && v_19) && (v_9.2.1 == v_11.2.1)) && (v_9.2.2 == v_11.2.2)) && v_21) && (v_13.2 == v_15.2)) (M.f26 fuel p0 p1 p2)) >>= fun v_25 =>
  (guardO (((((((v_17 && (v_5.2 == v_7.2)) && v_19) && (v_9.2.1 == v_11.2.1)) && (v_9.2.2 == v_11.2.2)) && v_21) && (v_13.2 == v_15.2)) && (v_23 == v_25)) (M.f27 p0 p1 p3 p4)) >>= fun v_27 =>
  (guardO (((((((v_17 && (v_5.2 == v_7.2)) && v_19) && (v_9.2.1 == v_11.2.1)) && (v_9.2.2 == v_11.2.2)) && v_21) && (v_13.2 == v_15.2)) && (v_23 == v_25)) (M.f28 fuel p0 p1 p3 p4)) >>= fun v_29 =>
  some ((((((((v_17 && (v_5.2 == v_7.2)) && v_19) && (v_9.2.1 == v_11.2.1)) && (v_9.2.2 == v_11.2.2)) && v_21) && (v_13.2 == v_15.2)) && (v_23 == v_25)) && (v_27 == v_29))))))

end Go.Proofs.YthogdhepjcomjaaGreatDoor.M
