/-
  Models of Go functions, written by program; nothing is claimed here.
-/
import Derived.Test.YthogdhepjcomjaaGreatDoorModelO
import Derived.Test.YthogdhepjcomjaaGreatDoorGivenTM
namespace Go.Proofs.YthogdhepjcomjaaGreatDoor.M
open Go Go.Proofs.YthogdhepjcomjaaGreatDoor Go.Proofs.YthogdhepjcomjaaGreatDoor.Wh

/-- waterhour/waterhourlaw07.lacking -/
def f63 (p0 : S_api_Roster) (p1 : Int) : Option (S_api_Roster × Bool) :=
  (M.f61 p0.2.2.2.2) >>= fun m_3 =>
  (if (p0.1 == 8) = true then (
  some (((p0.1, p0.2.1, p0.2.2.1, p0.2.2.2.1, m_3) : S_api_Roster), false))
  else (
  (idx m_3 p1) >>= fun v_8 =>
  (set1 m_3 p1 ((p0.1, v_8.2.1, v_8.2.2.1, v_8.2.2.2.1, v_8.2.2.2.2.1, v_8.2.2.2.2.2) : S_api_Turn)) >>= fun z_10 =>
  some ((((wr (p0.1 + 1)), p0.2.1, p0.2.2.1, p0.2.2.2.1, z_10) : S_api_Roster), true)))

/-- waterhour/waterhourlaw07.WatchLacking$1 -/
def f64 (p0 : Int) (c0 : List Int) : Option Bool :=
  (M.f44 c0 p0) >>= fun v_1 =>
  some (!v_1)

/-- waterhour/waterhourlaw07.WatchLacking -/
def f14 (fuel : Nat) (p0 : S_api_Roster) (p1 : Int) (p2 : List Int) (p3 : Int) : Option Bool :=
  (M.f16 fuel ) >>= fun v_1 =>
  (if (!v_1) = true then (
  some false)
  else (
  (M.f33 fuel p0) >>= fun v_3 =>
  (guardO (!(!v_3)) (M.f17 p0 ([p2] : List (List Int)))) >>= fun v_5 =>
  (if ((((((!v_3) || (!v_5)) || (decide (p1 < 0))) || (decide (p0.1 ≤ p1))) || (decide (p3 < 0))) || (decide ((p0.2.2.2.2.length : Int) ≤ p3))) = true then (
  some true)
  else (
  (M.f34 fuel p0 p1) >>= fun v_7 =>
  (M.f55 fuel p0 p1) >>= fun v_9 =>
  (if (((v_7.2.2 != 0) || (v_7.2.1 && (v_9.2 != 0))) || ((!v_7.2.1) && (v_9.2 != 4))) = true then (
  some false)
  else (
  (M.f63 p0 p3) >>= fun v_11 =>
  (if (!v_11.2) = true then (
  some true)
  else (
  (M.f34 fuel v_11.1 p1) >>= fun v_13 =>
  (M.f20 fuel v_11.1 p1) >>= fun v_15 =>
  (guardO ((!(((v_13.2.2 != 0) || (v_15.2.2 != 0)) || (v_13.2.1 == v_15.2.1))) && v_15.2.1) (M.f25 fuel v_11.1 p1 v_15.1)) >>= fun v_17 =>
  (if ((((v_13.2.2 != 0) || (v_15.2.2 != 0)) || (v_13.2.1 == v_15.2.1)) || (v_15.2.1 && (v_17 != 0))) = true then (
  some false)
  else (
  (if (!v_7.2.1) = true then (
  some (v_15.2.1 && ((v_9.1.length : Int) == 0)))
  else (
  (forM (ρ := Bool) 0 (([v_7.1, p2] : List (List Int)).length : Int) (() : Unit) fun i_19 _s_21 =>
    (idx ([v_7.1, p2] : List (List Int)) i_19) >>= fun v_25 =>
    (M.f35 fuel p0 p1 v_25) >>= fun v_27 =>
    (guardO (v_27 == 0) (M.f42 v_9.1 ((fun x0 => M.f64 x0 v_25) : (Int → Option Bool)))) >>= fun v_29 =>
    (if ((v_27 == 0) && v_29) = true then (
    some (.leave false))
    else (
    some (.again ())))) >>= fun o_22 => Out.elim o_22 (fun _s_21 =>
    (M.f44 v_9.1 p3) >>= fun v_31 =>
    (if v_31 = true then (
    some v_15.2.1)
    else (
    (if (!v_13.2.1) = true then (
    some false)
    else (
    (M.f53 p0 v_7.1) >>= fun v_33 =>
    (M.f53 p0 v_13.1) >>= fun v_35 =>
    (if (((v_33.2 != 0) || (v_35.2 != 0)) || (decide (v_35.1 < v_33.1))) = true then (
    some false)
    else (
    (M.f44 v_7.1 p3) >>= fun v_37 =>
    (guardO (!v_37) (M.f24 v_7.1 v_13.1)) >>= fun v_39 =>
    some (v_37 || v_39)))))))) (fun p_41 =>
    some p_41)))))))))))))

end Go.Proofs.YthogdhepjcomjaaGreatDoor.M
