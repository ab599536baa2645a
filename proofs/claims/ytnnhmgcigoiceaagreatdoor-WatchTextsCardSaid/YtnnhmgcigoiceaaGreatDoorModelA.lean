/-
  Models of Go functions, written by program; nothing is claimed here.
-/
import Derived.Test.YtnnhmgcigoiceaaGreatDoorData
import Derived.Test.YtnnhmgcigoiceaaGreatDoorGivenM
namespace Go.Proofs.YtnnhmgcigoiceaaGreatDoor.M
open Go Go.Proofs.YtnnhmgcigoiceaaGreatDoor Go.Proofs.YtnnhmgcigoiceaaGreatDoor.Wh

/-- waterhour/watch.within -/
def f54 (p0 : Int) (p1 : Int) (p2 : Int) : Option Bool :=
  some ((decide (p1 ≤ p0)) && (decide (p0 ≤ p2)))

/-- waterhour/watch.matrixOf -/
def f68 (p0 : List (List Int)) : Option (Vector (Vector Int 8) 8) :=
  (forS 0 (p0.length : Int) (((Vector.replicate 8 (#v[0, 0, 0, 0, 0, 0, 0, 0] : Vector Int 8)) : Vector (Vector Int 8) 8) : (Vector (Vector Int 8) 8)) fun i_2 s_4 =>
    (idxA s_4 i_2) >>= fun v_8 =>
    (idx p0 i_2) >>= fun v_10 =>
    (setA s_4 i_2 (copyA v_8 v_10)) >>= fun z_12 =>
    some z_12) >>= fun s_4 =>
  some s_4

/-- (waterhour/watch.matrix).closed -/
def f69 (p0 : Vector (Vector Int 8) 8) (p1 : Int) : Option (Vector (Vector Int 8) 8) :=
  (forS 0 p1 (p0 : (Vector (Vector Int 8) 8)) fun i_3 s_5 =>
    (forS 0 p1 (s_5 : (Vector (Vector Int 8) 8)) fun i_9 s_11 =>
      (forS 0 p1 (s_11 : (Vector (Vector Int 8) 8)) fun i_15 s_17 =>
        (idxA s_17 i_9) >>= fun v_21 =>
        (idxA v_21 i_15) >>= fun v_23 =>
        (idxA s_17 i_9) >>= fun v_25 =>
        (idxA v_25 i_3) >>= fun v_27 =>
        (idxA s_17 i_3) >>= fun v_29 =>
        (idxA v_29 i_15) >>= fun v_31 =>
        (idxA s_17 i_9) >>= fun v_33 =>
        (idxA v_33 i_15) >>= fun v_35 =>
        (setA v_33 i_15 (imin v_23 (wr (v_27 + v_31)))) >>= fun z_37 =>
        (setA s_17 i_9 z_37) >>= fun z_39 =>
        some z_39) >>= fun s_17 =>
      some s_17) >>= fun s_11 =>
    some s_11) >>= fun s_5 =>
  some s_5

/-- waterhour/watch.isTurn -/
def f26 (p0 : S_api_Turn) : Option Bool :=
  (M.f54 p0.1 0 7) >>= fun v_1 =>
  (guardO v_1 (M.f54 p0.2.1 0 7)) >>= fun v_3 =>
  (guardO (v_1 && v_3) (M.f54 p0.2.2.2.1 0 7)) >>= fun v_5 =>
  (guardO ((v_1 && v_3) && v_5) (M.f54 p0.2.2.1 0 16777216)) >>= fun v_7 =>
  (guardO (((v_1 && v_3) && v_5) && v_7) (M.f54 p0.2.2.2.2.1 0 16777216)) >>= fun v_9 =>
  (guardO ((((v_1 && v_3) && v_5) && v_7) && v_9) (M.f54 p0.2.2.2.2.2 0 10000)) >>= fun v_11 =>
  some (((((v_1 && v_3) && v_5) && v_7) && v_9) && v_11)

/-- waterhour/watch.Check -/
def f25 (p0 : S_api_Roster) : Option Int :=
  (M.f54 p0.1 1 8) >>= fun v_1 =>
  (guardO (!(!v_1)) (M.f54 p0.2.1 0 16777216)) >>= fun v_3 =>
  (guardO (!((!v_1) || (!v_3))) (M.f54 p0.2.2.1 0 16777216)) >>= fun v_5 =>
  (guardO (!((((!v_1) || (!v_3)) || (!v_5)) || (decide (p0.2.2.1 ≤ p0.2.1)))) (M.f54 (p0.2.2.2.1.length : Int) 1 8)) >>= fun v_7 =>
  (if ((((((!v_1) || (!v_3)) || (!v_5)) || (decide (p0.2.2.1 ≤ p0.2.1))) || (!v_7)) || (decide (24 < (p0.2.2.2.2.length : Int)))) = true then (
  some 70)
  else (
  (forM (ρ := Int) 0 (p0.2.2.2.1.length : Int) (() : Unit) fun i_9 s_11 =>
    (idx p0.2.2.2.1 i_9) >>= fun v_15 =>
    (if ((v_15.length : Int) != (p0.2.2.2.1.length : Int)) = true then (
    some (.leave 70))
    else (
    (forM (ρ := Int) 0 (v_15.length : Int) (() : Unit) fun i_17 s_19 =>
      (idx v_15 i_17) >>= fun v_23 =>
      (M.f54 v_23 (-1048576) 1048576) >>= fun v_25 =>
      (if ((!v_25) || ((i_9 == i_17) && (v_23 != 0))) = true then (
      some (.leave 70))
      else (
      some (.again ())))) >>= fun o_20 => Out.elim o_20 (fun s_19 =>
      some (.again ())) (fun p_27 =>
      some (.leave p_27))))) >>= fun o_12 => Out.elim o_12 (fun s_11 =>
    (M.f68 p0.2.2.2.1) >>= fun v_28 =>
    (M.f69 v_28 (p0.2.2.2.1.length : Int)) >>= fun v_30 =>
    (if (v_28 != v_30) = true then (
    some 70)
    else (
    (forM (ρ := Int) 0 (p0.2.2.2.2.length : Int) (() : Unit) fun i_32 s_34 =>
      (idx p0.2.2.2.2 i_32) >>= fun v_38 =>
      (M.f26 v_38) >>= fun v_40 =>
      (if ((((!v_40) || (decide (p0.1 ≤ v_38.1))) || (decide ((p0.2.2.2.1.length : Int) ≤ v_38.2.1))) || (decide ((p0.2.2.2.1.length : Int) ≤ v_38.2.2.2.1))) = true then (
      some (.leave 70))
      else (
      some (.again ())))) >>= fun o_35 => Out.elim o_35 (fun s_34 =>
      some 0) (fun p_42 =>
      some p_42)))) (fun p_43 =>
    some p_43)))

end Go.Proofs.YtnnhmgcigoiceaaGreatDoor.M
