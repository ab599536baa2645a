/-
  Models of Go functions, written by program; nothing is claimed here.
-/
import Derived.Test.YtkbilbeaedocjaaModelG
import Derived.Test.YtkbilbeaedocjaaModelK
namespace Go.Proofs.Ytkbilbeaedocjaa.M
open Go Go.Proofs.Ytkbilbeaedocjaa Go.Proofs.Ytkbilbeaedocjaa.Wh

/-- waterhour/waterhourlaw08.KeeperFollows$1 -/
def f44 (p0 : List (Vector Int 2)) : Option Bool :=
  some (decide (64 < (p0.length : Int)))

/-- slices.Index[[][2]int,[2]int] -/
def f99 (p0 : List (Vector Int 2)) (p1 : Vector Int 2) : Option Int :=
  (forM (ρ := Int) 0 (p0.length : Int) (() : Unit) fun i_1 s_3 =>
    (idx p0 i_1) >>= fun v_7 =>
    (if (p1 == v_7) = true then (
    some (.leave i_1))
    else (
    some (.again ())))) >>= fun o_4 => Out.elim o_4 (fun s_3 =>
    some (-1)) (fun p_9 =>
    some p_9)

/-- slices.Contains[[][2]int,[2]int] -/
def f47 (p0 : List (Vector Int 2)) (p1 : Vector Int 2) : Option Bool :=
  (M.f99 p0 p1) >>= fun v_1 =>
  some (decide (0 ≤ v_1))

/-- waterhour/waterhourlaw08.KeeperFollows$2 -/
def f49 (p0 : Vector Int 2) (c0 : Vector Int 2) : Option Bool :=
  (idxA p0 0) >>= fun v_1 =>
  (idxA c0 0) >>= fun v_3 =>
  (guardO (decide (v_1 ≤ v_3)) (idxA p0 1)) >>= fun v_5 =>
  (guardO (decide (v_1 ≤ v_3)) (idxA c0 1)) >>= fun v_7 =>
  some ((decide (v_1 ≤ v_3)) && (decide (v_5 ≤ v_7)))

/-- slices.ContainsFunc[[][2]int,[2]int] -/
def f48 (p0 : List (Vector Int 2)) (p1 : ((Vector Int 2) → Option Bool)) : Option Bool :=
  (M.f38 p0 p1) >>= fun v_1 =>
  some (decide (0 ≤ v_1))

/-- waterhour/waterhourlaw08.KeeperFollows -/
def f8 (fuel : Nat) (p0 : S_api_Market) (p1 : Int) : Option Bool :=
  (M.f16 fuel ) >>= fun v_1 =>
  (if (!v_1) = true then (
  some false)
  else (
  (M.f31 fuel p0 ([] : List Int) ([p1] : List Int)) >>= fun v_3 =>
  (if (!v_3) = true then (
  some true)
  else (
  (M.f34 p0 p1) >>= fun v_5 =>
  (guardO (!((v_5.2 != 0) || ((v_5.1.length : Int) != p0.1))) (M.f43 v_5.1 (fun x0 => M.f44 x0))) >>= fun v_7 =>
  (guardO (!(((v_5.2 != 0) || ((v_5.1.length : Int) != p0.1)) || v_7)) (idx v_5.1 p1)) >>= fun v_9 =>
  (guardO (!(((v_5.2 != 0) || ((v_5.1.length : Int) != p0.1)) || v_7)) (M.f45 v_9 ([(#v[0, 0] : Vector Int 2)] : List (Vector Int 2)))) >>= fun v_11 =>
  (if ((((v_5.2 != 0) || ((v_5.1.length : Int) != p0.1)) || v_7) || (!v_11)) = true then (
  some false)
  else (
  (M.f46 ([p0.2.1, p0.2.2] : List (List S_api_Offer))) >>= fun v_13 =>
  (forM (ρ := Bool) 0 (v_5.1.length : Int) (() : Unit) fun i_15 s_17 =>
    (idx v_5.1 i_15) >>= fun v_21 =>
    (forS 0 (v_13.length : Int) (([] : List (Vector Int 2)) : (List (Vector Int 2))) fun i_23 s_25 =>
      (idx v_13 i_23) >>= fun v_30 =>
      (forS 0 2 (s_25 : (List (Vector Int 2))) fun i_32 s_34 =>
        (idxA (#v[(#v[v_30.1, v_30.2.1] : Vector Int 2), (#v[v_30.2.1, v_30.1] : Vector Int 2)] : Vector (Vector Int 2) 2) i_32) >>= fun v_39 =>
        (idxA v_39 1) >>= fun v_41 =>
        (if (v_41 != i_15) = true then (
        some s_34)
        else (
        (idxA v_39 0) >>= fun v_43 =>
        (idx v_5.1 v_43) >>= fun v_45 =>
        (forS 0 (v_45.length : Int) (s_34 : (List (Vector Int 2))) fun i_47 s_49 =>
          (idx v_45 i_47) >>= fun v_54 =>
          (idxA v_54 0) >>= fun v_56 =>
          (idxA v_54 1) >>= fun v_58 =>
          (app s_49 ([(#v[(wr (v_56 + v_30.2.2.1)), (wr (v_58 + v_30.2.2.2))] : Vector Int 2)] : List (Vector Int 2))) >>= fun z_60 =>
          some z_60) >>= fun s_49 =>
        some s_49))) >>= fun s_34 =>
      some s_34) >>= fun s_25 =>
    (forM (ρ := Bool) 0 (v_21.length : Int) (() : Unit) fun i_63 s_65 =>
      (idx v_21 i_63) >>= fun v_69 =>
      (guardO (decide (0 < i_63)) (idx v_21 (wr (i_63 - 1)))) >>= fun v_72 =>
      (guardO (decide (0 < i_63)) (idxA v_72 0)) >>= fun v_74 =>
      (guardO (decide (0 < i_63)) (idxA v_69 0)) >>= fun v_76 =>
      (guardO ((decide (0 < i_63)) && (!(decide (v_76 ≤ v_74)))) (idx v_21 (wr (i_63 - 1)))) >>= fun v_78 =>
      (guardO ((decide (0 < i_63)) && (!(decide (v_76 ≤ v_74)))) (idxA v_78 1)) >>= fun v_80 =>
      (guardO ((decide (0 < i_63)) && (!(decide (v_76 ≤ v_74)))) (idxA v_69 1)) >>= fun v_82 =>
      (guardO ((!((decide (0 < i_63)) && ((decide (v_76 ≤ v_74)) || (decide (v_80 ≤ v_82))))) && (i_15 != p1)) (M.f47 s_25 v_69)) >>= fun v_84 =>
      (if (((decide (0 < i_63)) && ((decide (v_76 ≤ v_74)) || (decide (v_80 ≤ v_82)))) || ((i_15 != p1) && (!v_84))) = true then (
      some (.leave false))
      else (
      some (.again ())))) >>= fun o_66 => Out.elim o_66 (fun s_65 =>
      (forM (ρ := Bool) 0 (s_25.length : Int) (() : Unit) fun i_86 s_88 =>
        (idx s_25 i_86) >>= fun v_92 =>
        (M.f48 v_21 ((fun x0 => M.f49 x0 v_92) : ((Vector Int 2) → Option Bool))) >>= fun v_94 =>
        (if (!v_94) = true then (
        some (.leave false))
        else (
        some (.again ())))) >>= fun o_89 => Out.elim o_89 (fun s_88 =>
        some (.again ())) (fun p_96 =>
        some (.leave p_96))) (fun p_97 =>
      some (.leave p_97))) >>= fun o_18 => Out.elim o_18 (fun s_17 =>
    some true) (fun p_98 =>
    some p_98)))))))

end Go.Proofs.Ytkbilbeaedocjaa.M
