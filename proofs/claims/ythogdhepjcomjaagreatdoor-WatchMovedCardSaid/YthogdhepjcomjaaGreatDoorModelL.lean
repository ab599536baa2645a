/-
  Models of Go functions, written by program; nothing is claimed here.
-/
import Derived.Test.YthogdhepjcomjaaGreatDoorModelE
namespace Go.Proofs.YthogdhepjcomjaaGreatDoor.M
open Go Go.Proofs.YthogdhepjcomjaaGreatDoor Go.Proofs.YthogdhepjcomjaaGreatDoor.Wh

/-- waterhour/waterhourlaw07.WatchMoved$1 -/
def f41 (p0 : Int) (c0 : Int) (c1 : Int) : Option Int :=
  (if (p0 == c0) = true then (
  some c1)
  else (
  (if (p0 == c1) = true then (
  some c0)
  else (
  some p0))))

/-- waterhour/waterhourlaw07.WatchMoved -/
def f7 (fuel : Nat) (p0 : S_api_Roster) (p1 : Int) (p2 : Int) (p3 : Int) (p4 : Int) : Option Bool :=
  (M.f16 fuel ) >>= fun v_1 =>
  (if (!v_1) = true then (
  some false)
  else (
  (M.f33 fuel p0) >>= fun v_3 =>
  (if (((((((((!v_3) || (decide (p1 < 0))) || (decide (p0.1 ≤ p1))) || (decide (p2 < (-16777216)))) || (decide (16777216 < p2))) || (decide (p3 < 1))) || (decide ((p0.2.2.2.1.length : Int) ≤ p3))) || (decide (p4 < 1))) || (decide ((p0.2.2.2.1.length : Int) ≤ p4))) = true then (
  some true)
  else (
  (forS 0 (p0.2.2.2.1.length : Int) (([] : List (List Int)) : (List (List Int))) fun i_6 s_8 =>
    (forS 0 (p0.2.2.2.1.length : Int) (([] : List Int) : (List Int)) fun i_13 s_15 =>
      (((fun x0 => M.f41 x0 p3 p4) : (Int → Option Int)) i_6) >>= fun v_20 =>
      (idx p0.2.2.2.1 v_20) >>= fun v_22 =>
      (((fun x0 => M.f41 x0 p3 p4) : (Int → Option Int)) i_13) >>= fun v_24 =>
      (idx v_22 v_24) >>= fun v_26 =>
      (app s_15 ([v_26] : List Int)) >>= fun z_28 =>
      some z_28) >>= fun s_15 =>
    (app s_8 ([s_15] : List (List Int))) >>= fun z_31 =>
    some z_31) >>= fun s_8 =>
  (forS 0 (p0.2.2.2.2.length : Int) (([] : List S_api_Turn) : (List S_api_Turn)) fun i_34 s_36 =>
    (idx p0.2.2.2.2 i_34) >>= fun v_41 =>
    (((fun x0 => M.f41 x0 p3 p4) : (Int → Option Int)) v_41.2.1) >>= fun v_43 =>
    (((fun x0 => M.f41 x0 p3 p4) : (Int → Option Int)) v_41.2.2.2.1) >>= fun v_45 =>
    (app s_36 ([((v_41.1, v_43, (wr (v_41.2.2.1 + p2)), v_45, (wr (v_41.2.2.2.2.1 + p2)), v_41.2.2.2.2.2) : S_api_Turn)] : List S_api_Turn)) >>= fun z_47 =>
    some z_47) >>= fun s_36 =>
  (M.f33 fuel ((p0.1, (wr (p0.2.1 + p2)), (wr (p0.2.2.1 + p2)), s_8, s_36) : S_api_Roster)) >>= fun v_50 =>
  (if (!v_50) = true then (
  some true)
  else (
  (M.f34 fuel p0 p1) >>= fun v_52 =>
  (M.f34 fuel ((p0.1, (wr (p0.2.1 + p2)), (wr (p0.2.2.1 + p2)), s_8, s_36) : S_api_Roster) p1) >>= fun v_54 =>
  (M.f20 fuel p0 p1) >>= fun v_56 =>
  (M.f20 fuel ((p0.1, (wr (p0.2.1 + p2)), (wr (p0.2.2.1 + p2)), s_8, s_36) : S_api_Roster) p1) >>= fun v_58 =>
  (M.f22 fuel p0 p1) >>= fun v_60 =>
  (M.f22 fuel ((p0.1, (wr (p0.2.1 + p2)), (wr (p0.2.2.1 + p2)), s_8, s_36) : S_api_Roster) p1) >>= fun v_62 =>
  (M.f24 v_52.1 v_54.1) >>= fun v_64 =>
  (guardO ((v_64 && (v_52.2.1 == v_54.2.1)) && (v_52.2.2 == v_54.2.2)) (M.f24 v_56.1 v_58.1)) >>= fun v_66 =>
  (guardO (((((v_64 && (v_52.2.1 == v_54.2.1)) && (v_52.2.2 == v_54.2.2)) && v_66) && (v_56.2.1 == v_58.2.1)) && (v_56.2.2 == v_58.2.2)) (M.f24 v_60.1 v_62.1)) >>= fun v_68 =>
  some (((((((v_64 && (v_52.2.1 == v_54.2.1)) && (v_52.2.2 == v_54.2.2)) && v_66) && (v_56.2.1 == v_58.2.1)) && (v_56.2.2 == v_58.2.2)) && v_68) && (v_60.2 == v_62.2))))))))

end Go.Proofs.YthogdhepjcomjaaGreatDoor.M
