/-
  Models of Go functions, written by program; nothing is claimed here.
-/
import Derived.Test.YthogdhepjcomjaaGreatDoorModelE
namespace Go.Proofs.YthogdhepjcomjaaGreatDoor.M
open Go Go.Proofs.YthogdhepjcomjaaGreatDoor Go.Proofs.YthogdhepjcomjaaGreatDoor.Wh

/-- waterhour/waterhourref07.gate -/
def f136 (p0 : S_api_Roster) (p1 : Int) : Option Bool :=
  some ((decide (0 ≤ p1)) && (decide (p1 < p0.1)))

/-- waterhour/waterhourref07.first -/
def f75 (fuel : Nat) (p0 : S_api_Roster) (p1 : Int) : Option Int :=
  (M.f33 fuel p0) >>= fun v_1 =>
  (if (!v_1) = true then (
  some 70)
  else (
  (M.f136 p0 p1) >>= fun v_3 =>
  (if (!v_3) = true then (
  some 1)
  else (
  some 0))))

/-- waterhour/waterhourref07.IsPlan -/
def f129 (fuel : Nat) (p0 : S_api_Roster) (p1 : Int) (p2 : List Int) : Option Bool :=
  (guardO (!((p2.length : Int) == 0)) (M.f96 fuel p0 p1 p2)) >>= fun v_1 =>
  (guardO (!(((p2.length : Int) == 0) || (!v_1))) (idx p2 0)) >>= fun v_3 =>
  (guardO (!(((p2.length : Int) == 0) || (!v_1))) (M.f83 p0 v_3)) >>= fun v_5 =>
  (guardO (!((((p2.length : Int) == 0) || (!v_1)) || (!v_5))) (idx p2 (wr ((p2.length : Int) - 1)))) >>= fun v_7 =>
  (guardO (!((((p2.length : Int) == 0) || (!v_1)) || (!v_5))) (M.f98 p0 v_7)) >>= fun v_9 =>
  (if (((((p2.length : Int) == 0) || (!v_1)) || (!v_5)) || (!v_9)) = true then (
  some false)
  else (
  (loopM (ρ := (Unit ⊕ Bool)) (fun s_11 : Int =>
    (if (decide (s_11 < (p2.length : Int))) = true then (
    (idx p2 (wr (s_11 - 1))) >>= fun v_15 =>
    (idx p2 s_11) >>= fun v_17 =>
    (M.f84 p0 v_15 v_17) >>= fun v_19 =>
    (if (!v_19) = true then (
    some (.leave (.inr false)))
    else (
    some (.again (wr (s_11 + 1))))))
    else (
    some (.leave (.inl ()))))) fuel (1 : Int)) >>= fun o_12 =>
  (fun x_ => sumE x_ (fun _p_21 =>
    some true) (fun p_22 =>
    some p_22)) o_12))

/-- waterhour/waterhourref07.weight -/
def f139 (p0 : S_api_Turn) (p1 : Bool) : Option Int :=
  (if p1 = true then (
  some (wr (1048576 + p0.2.2.2.2.2)))
  else (
  some (wr ((wr (64 * p0.2.2.2.2.2)) + 1))))

/-- waterhour/waterhourref07.rests -/
def f138 (fuel : Nat) (p0 : S_api_Roster) (p1 : Int) (p2 : Bool) : Option (List Int) :=
  (loopM (ρ := (List Int)) (fun s_1 : Int × (List Int) =>
    (if (decide (s_1.1 < (p0.2.2.2.2.length : Int))) = true then (
    (idx p0.2.2.2.2 s_1.1) >>= fun v_6 =>
    (guardO (v_6.1 == p1) (M.f98 p0 s_1.1)) >>= fun v_8 =>
    (if ((v_6.1 == p1) && v_8) = true then (
    (idx p0.2.2.2.2 s_1.1) >>= fun v_13 =>
    (M.f139 v_13 p2) >>= fun v_15 =>
    (app s_1.2 ([v_15] : List Int)) >>= fun z_17 =>
    some z_17)
    else (
    (app s_1.2 ([1099511627776] : List Int)) >>= fun z_20 =>
    some z_20)) >>= fun y_11 =>
    some (.again ((wr (s_1.1 + 1)), y_11)))
    else (
    some (.leave s_1.2)))) fuel ((0, ([] : List Int)) : Int × (List Int))) >>= fun o_2 =>
  (fun p_58 =>
    (loopM (ρ := (List Int)) (fun s_59 : Int × (List Int) =>
      (if (decide (s_59.1 < (p0.2.2.2.2.length : Int))) = true then (
      (loopM (ρ := (List Int)) (fun s_63 : Int × (List Int) =>
        (if (decide (s_63.1 < (p0.2.2.2.2.length : Int))) = true then (
        (loopM (ρ := (List Int)) (fun s_67 : Int × (List Int) =>
          (if (decide (s_67.1 < (p0.2.2.2.2.length : Int))) = true then (
          (idx p0.2.2.2.2 s_63.1) >>= fun v_71 =>
          (guardO (v_71.1 == p1) (M.f84 p0 s_63.1 s_67.1)) >>= fun v_73 =>
          (guardO ((v_71.1 == p1) && v_73) (idx s_67.2 s_67.1)) >>= fun v_75 =>
          (if (((v_71.1 == p1) && v_73) && (decide (v_75 < 1099511627776))) = true then (
          (idx s_67.2 s_63.1) >>= fun v_79 =>
          (idx s_67.2 s_67.1) >>= fun v_81 =>
          (idx p0.2.2.2.2 s_63.1) >>= fun v_83 =>
          (M.f139 v_83 p2) >>= fun v_85 =>
          (idx s_67.2 s_63.1) >>= fun _v_87 =>
          (set1 s_67.2 s_63.1 (imin v_79 (wr (v_81 + v_85)))) >>= fun z_89 =>
          some z_89)
          else (
          some s_67.2)) >>= fun y_78 =>
          some (.again ((wr (s_67.1 + 1)), y_78)))
          else (
          some (.leave s_67.2)))) fuel ((0, s_63.2) : Int × (List Int))) >>= fun o_68 =>
        (fun p_91 =>
          some (.again ((wr (s_63.1 + 1)), p_91))) o_68)
        else (
        some (.leave s_63.2)))) fuel ((0, s_59.2) : Int × (List Int))) >>= fun o_64 =>
      (fun p_92 =>
        some (.again ((wr (s_59.1 + 1)), p_92))) o_64)
      else (
      some (.leave s_59.2)))) fuel ((0, p_58) : Int × (List Int))) >>= fun o_60 =>
    (fun p_93 =>
      some p_93) o_60) o_2

/-- waterhour/waterhourref07.best -/
def f78 (fuel : Nat) (p0 : S_api_Roster) (p1 : Int) (p2 : Bool) : Option (List Int) :=
  (M.f138 fuel p0 p1 p2) >>= fun v_1 =>
  (loopM (ρ := Int) (fun s_3 : Int × Int =>
    (if (decide (s_3.2 < (v_1.length : Int))) = true then (
    (idx v_1 s_3.2) >>= fun v_7 =>
    (guardO (decide (v_7 < 1099511627776)) (idx p0.2.2.2.2 s_3.2)) >>= fun v_9 =>
    (guardO ((decide (v_7 < 1099511627776)) && (v_9.1 == p1)) (M.f83 p0 s_3.2)) >>= fun v_11 =>
    (guardO ((((decide (v_7 < 1099511627776)) && (v_9.1 == p1)) && v_11) && (!(decide (s_3.1 < 0)))) (idx v_1 s_3.2)) >>= fun v_13 =>
    (guardO ((((decide (v_7 < 1099511627776)) && (v_9.1 == p1)) && v_11) && (!(decide (s_3.1 < 0)))) (idx v_1 s_3.1)) >>= fun v_15 =>
    (if ((((decide (v_7 < 1099511627776)) && (v_9.1 == p1)) && v_11) && ((decide (s_3.1 < 0)) || (decide (v_13 < v_15)))) = true then (
    some s_3.2)
    else (
    some s_3.1)) >>= fun y_18 =>
    some (.again (y_18, (wr (s_3.2 + 1)))))
    else (
    some (.leave s_3.1)))) fuel (((-1), 0) : Int × Int)) >>= fun o_4 =>
  (fun p_45 =>
    (loopM (ρ := (List Int)) (fun s_46 : Int × (List Int) =>
      (if (decide (0 ≤ s_46.1)) = true then (
      (app s_46.2 ([s_46.1] : List Int)) >>= fun z_51 =>
      (idx v_1 s_46.1) >>= fun v_54 =>
      (idx p0.2.2.2.2 s_46.1) >>= fun v_56 =>
      (M.f139 v_56 p2) >>= fun v_58 =>
      (loopM (ρ := Int) (fun s_60 : Int × Int =>
        (if ((decide (0 ≤ s_60.2)) && (decide (0 < (wr (v_54 - v_58))))) = true then (
        (M.f84 p0 s_46.1 s_60.2) >>= fun v_64 =>
        (guardO v_64 (idx v_1 s_60.2)) >>= fun v_66 =>
        (if (v_64 && (v_66 == (wr (v_54 - v_58)))) = true then (
        some s_60.2)
        else (
        some s_60.1)) >>= fun y_69 =>
        some (.again (y_69, (wr (s_60.2 - 1)))))
        else (
        some (.leave s_60.1)))) fuel (((-1), (wr ((v_1.length : Int) - 1))) : Int × Int)) >>= fun o_61 =>
      (fun p_70 =>
        some (.again (p_70, z_51))) o_61)
      else (
      some (.leave s_46.2)))) fuel ((p_45, ([] : List Int)) : Int × (List Int))) >>= fun o_47 =>
    (fun p_71 =>
      some p_71) o_47) o_4

end Go.Proofs.YthogdhepjcomjaaGreatDoor.M
