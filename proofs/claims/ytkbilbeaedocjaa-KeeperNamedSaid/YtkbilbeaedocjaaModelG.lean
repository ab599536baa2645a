/-
  Models of Go functions, written by program; nothing is claimed here.
-/
import Derived.Test.YtkbilbeaedocjaaModelC
namespace Go.Proofs.Ytkbilbeaedocjaa.M
open Go Go.Proofs.Ytkbilbeaedocjaa Go.Proofs.Ytkbilbeaedocjaa.Wh

/-- slices.IndexFunc[[][][2]int,[][2]int] -/
def f97 (p0 : List (List (Vector Int 2))) (p1 : ((List (Vector Int 2)) → Option Bool)) : Option Int :=
  (forM (ρ := Int) 0 (p0.length : Int) (() : Unit) fun i_1 s_3 =>
    (idx p0 i_1) >>= fun v_7 =>
    (p1 v_7) >>= fun v_9 =>
    (if v_9 = true then (
    some (.leave i_1))
    else (
    some (.again ())))) >>= fun o_4 => Out.elim o_4 (fun s_3 =>
    some (-1)) (fun p_11 =>
    some p_11)

/-- slices.ContainsFunc[[][][2]int,[][2]int] -/
def f43 (p0 : List (List (Vector Int 2))) (p1 : ((List (Vector Int 2)) → Option Bool)) : Option Bool :=
  (M.f97 p0 p1) >>= fun v_1 =>
  some (decide (0 ≤ v_1))

/-- waterhour/waterhourlaw08.KeeperFronts$1 -/
def f51 (p0 : List (Vector Int 2)) : Option Bool :=
  some (decide (100 < (p0.length : Int)))

/-- waterhour/waterhourref08.put -/
def f103 (fuel : Nat) (p0 : List (Vector Int 2)) (p1 : Vector Int 2) : Option (List (Vector Int 2)) :=
  (loopM (ρ := (Unit ⊕ (List (Vector Int 2)))) (fun s_1 : Int =>
    (if (decide (s_1 < (p0.length : Int))) = true then (
    (idx p0 s_1) >>= fun v_5 =>
    (idxA v_5 0) >>= fun v_7 =>
    (idxA p1 0) >>= fun v_9 =>
    (guardO (decide (v_7 ≤ v_9)) (idx p0 s_1)) >>= fun v_11 =>
    (guardO (decide (v_7 ≤ v_9)) (idxA v_11 1)) >>= fun v_13 =>
    (guardO (decide (v_7 ≤ v_9)) (idxA p1 1)) >>= fun v_15 =>
    (if ((decide (v_7 ≤ v_9)) && (decide (v_13 ≤ v_15))) = true then (
    some (.leave (.inr p0)))
    else (
    some (.again (wr (s_1 + 1))))))
    else (
    some (.leave (.inl ()))))) fuel (0 : Int)) >>= fun o_2 =>
  (fun x_ => sumE x_ (fun p_65 =>
    (loopM (ρ := (Bool × (List (Vector Int 2)))) (fun s_66 : Bool × Int × (List (Vector Int 2)) =>
      (if (decide (s_66.2.1 < (p0.length : Int))) = true then (
      (idxA p1 0) >>= fun v_71 =>
      (idx p0 s_66.2.1) >>= fun v_73 =>
      (idxA v_73 0) >>= fun v_75 =>
      (guardO (decide (v_71 ≤ v_75)) (idxA p1 1)) >>= fun v_77 =>
      (guardO (decide (v_71 ≤ v_75)) (idx p0 s_66.2.1)) >>= fun v_79 =>
      (guardO (decide (v_71 ≤ v_75)) (idxA v_79 1)) >>= fun v_81 =>
      (if ((decide (v_71 ≤ v_75)) && (decide (v_77 ≤ v_81))) = true then (
      some (.again (s_66.1, (wr (s_66.2.1 + 1)), s_66.2.2)))
      else (
      (guardO (!s_66.1) (idxA p1 0)) >>= fun v_83 =>
      (guardO (!s_66.1) (idx p0 s_66.2.1)) >>= fun v_85 =>
      (guardO (!s_66.1) (idxA v_85 0)) >>= fun v_87 =>
      (if ((!s_66.1) && (decide (v_83 < v_87))) = true then (
      (app s_66.2.2 ([p1] : List (Vector Int 2))) >>= fun z_93 =>
      some (true, z_93))
      else (
      some (s_66.1, s_66.2.2))) >>= fun (y_90, y_91) =>
      (idx p0 s_66.2.1) >>= fun v_96 =>
      (app y_91 ([v_96] : List (Vector Int 2))) >>= fun z_98 =>
      some (.again (y_90, (wr (s_66.2.1 + 1)), z_98)))))
      else (
      some (.leave (s_66.1, s_66.2.2))))) fuel ((false, 0, ([] : List (Vector Int 2))) : Bool × Int × (List (Vector Int 2)))) >>= fun o_67 =>
    (fun p_107 =>
      (if (!p_107.1) = true then (
      (app p_107.2 ([p1] : List (Vector Int 2))) >>= fun z_111 =>
      some z_111)
      else (
      some p_107.2)) >>= fun y_109 =>
      some y_109) o_67) (fun p_114 =>
    some p_114)) o_2

/-- waterhour/waterhourref08.Fronts -/
def f52 (fuel : Nat) (p0 : S_api_Market) (p1 : Int) : Option ((List (List (Vector Int 2))) × Int) :=
  (M.f72 fuel p0 ([] : List Int) 0 ([p1] : List Int)) >>= fun v_1 =>
  (if (v_1 != 0) = true then (
  some (([] : List (List (Vector Int 2))), v_1))
  else (
  (loopM (ρ := (List (List (Vector Int 2)))) (fun s_3 : Int × (List (List (Vector Int 2))) =>
    (if (decide (s_3.1 < p0.1)) = true then (
    (app s_3.2 ([([] : List (Vector Int 2))] : List (List (Vector Int 2)))) >>= fun z_8 =>
    some (.again ((wr (s_3.1 + 1)), z_8)))
    else (
    some (.leave s_3.2)))) fuel ((0, ([] : List (List (Vector Int 2)))) : Int × (List (List (Vector Int 2))))) >>= fun o_4 =>
  (fun p_47 =>
    (loopM (ρ := (List (List (Vector Int 2)))) (fun s_48 : Int × (List (List (Vector Int 2))) =>
      (shl 1 (p0.2.2.length : Int)) >>= fun v_52 =>
      (if (decide (s_48.1 < v_52)) = true then (
      (M.f74 fuel p0 s_48.1) >>= fun v_54 =>
      (M.f81 fuel p0 v_54) >>= fun v_56 =>
      (M.f102 fuel p0 v_54) >>= fun v_58 =>
      (M.f101 fuel p0.1 v_58) >>= fun v_60 =>
      (idx v_60 p1) >>= fun v_62 =>
      (loopM (ρ := (List (List (Vector Int 2)))) (fun s_64 : Int × (List (List (Vector Int 2))) =>
        (if (decide (s_64.1 < p0.1)) = true then (
        (idx v_62 s_64.1) >>= fun v_68 =>
        (if (decide (v_68 < 1099511627776)) = true then (
        (idx s_64.2 s_64.1) >>= fun v_72 =>
        (idx v_62 s_64.1) >>= fun v_74 =>
        (M.f103 fuel v_72 (#v[v_56, v_74] : Vector Int 2)) >>= fun v_76 =>
        (idx s_64.2 s_64.1) >>= fun v_78 =>
        (set1 s_64.2 s_64.1 v_76) >>= fun z_80 =>
        some z_80)
        else (
        some s_64.2)) >>= fun y_71 =>
        some (.again ((wr (s_64.1 + 1)), y_71)))
        else (
        some (.leave s_64.2)))) fuel ((0, s_48.2) : Int × (List (List (Vector Int 2))))) >>= fun o_65 =>
      (fun p_82 =>
        some (.again ((wr (s_48.1 + 1)), p_82))) o_65)
      else (
      some (.leave s_48.2)))) fuel ((0, p_47) : Int × (List (List (Vector Int 2))))) >>= fun o_49 =>
    (fun p_83 =>
      some (p_83, 0)) o_49) o_4))

/-- slices.EqualFunc[[][][2]int,[][][2]int,[][2]int,[][2]int] -/
def f104 (p0 : List (List (Vector Int 2))) (p1 : List (List (Vector Int 2))) (p2 : ((List (Vector Int 2)) → (List (Vector Int 2)) → Option Bool)) : Option Bool :=
  (if ((p0.length : Int) != (p1.length : Int)) = true then (
  some false)
  else (
  (forM (ρ := Bool) 0 (p0.length : Int) (() : Unit) fun i_1 s_3 =>
    (idx p0 i_1) >>= fun v_7 =>
    (idx p1 i_1) >>= fun v_9 =>
    (p2 v_7 v_9) >>= fun v_11 =>
    (if (!v_11) = true then (
    some (.leave false))
    else (
    some (.again ())))) >>= fun o_4 => Out.elim o_4 (fun s_3 =>
    some true) (fun p_13 =>
    some p_13)))

/-- slices.Equal[[][2]int,[2]int] -/
def f45 (p0 : List (Vector Int 2)) (p1 : List (Vector Int 2)) : Option Bool :=
  (if ((p0.length : Int) != (p1.length : Int)) = true then (
  some false)
  else (
  (forM (ρ := Bool) 0 (p0.length : Int) (() : Unit) fun i_1 s_3 =>
    (idx p0 i_1) >>= fun v_7 =>
    (idx p1 i_1) >>= fun v_9 =>
    (if (v_7 != v_9) = true then (
    some (.leave false))
    else (
    some (.again ())))) >>= fun o_4 => Out.elim o_4 (fun s_3 =>
    some true) (fun p_11 =>
    some p_11)))

/-- waterhour/keeper.CheckFronts$1 -/
def f105 (p0 : List (Vector Int 2)) (p1 : List (Vector Int 2)) : Option Bool :=
  (M.f45 p0 p1) >>= fun v_1 =>
  some v_1

/-- waterhour/keeper.CheckFronts -/
def f53 (p0 : S_api_Market) (p1 : Int) (p2 : List (List (Vector Int 2))) : Option Int :=
  (M.f76 p0 ([] : List Int) ((([p1] : List Int), []) : S_keeper_numbers)) >>= fun v_1 =>
  (if (v_1 != 0) = true then (
  some v_1)
  else (
  (M.f93 p0 p1) >>= fun v_3 =>
  (M.f104 p2 v_3 (fun x0 x1 => M.f105 x0 x1)) >>= fun v_5 =>
  (if (!v_5) = true then (
  some 81)
  else (
  some 0))))

/-- waterhour/waterhourref08.CheckFronts -/
def f54 (fuel : Nat) (p0 : S_api_Market) (p1 : Int) (p2 : List (List (Vector Int 2))) : Option Int :=
  (M.f52 fuel p0 p1) >>= fun v_1 =>
  (if (v_1.2 != 0) = true then (
  some v_1.2)
  else (
  (M.f36 fuel v_1.1 p2) >>= fun v_3 =>
  (if (!v_3) = true then (
  some 81)
  else (
  some 0))))

/-- waterhour/waterhourlaw08.KeeperFronts -/
def f11 (fuel : Nat) (p0 : S_api_Market) (p1 : Int) (p2 : List (List (Vector Int 2))) : Option Bool :=
  (M.f16 fuel ) >>= fun v_1 =>
  (if (!v_1) = true then (
  some false)
  else (
  (M.f17 p0) >>= fun v_3 =>
  (guardO (!((!v_3) || (decide (20 < (p2.length : Int))))) (M.f43 p2 (fun x0 => M.f51 x0))) >>= fun v_5 =>
  (if (((!v_3) || (decide (20 < (p2.length : Int)))) || v_5) = true then (
  some true)
  else (
  (M.f34 p0 p1) >>= fun v_7 =>
  (M.f52 fuel p0 p1) >>= fun v_9 =>
  (M.f36 fuel v_7.1 v_9.1) >>= fun v_11 =>
  (guardO (v_11 && (v_7.2 == v_9.2)) (M.f53 p0 p1 p2)) >>= fun v_13 =>
  (guardO (v_11 && (v_7.2 == v_9.2)) (M.f54 fuel p0 p1 p2)) >>= fun v_15 =>
  (guardO (((v_11 && (v_7.2 == v_9.2)) && (v_13 == v_15)) && (!(v_7.2 != 0))) (M.f53 p0 p1 v_7.1)) >>= fun v_17 =>
  some (((v_11 && (v_7.2 == v_9.2)) && (v_13 == v_15)) && ((v_7.2 != 0) || (v_17 == 0)))))))

end Go.Proofs.Ytkbilbeaedocjaa.M
