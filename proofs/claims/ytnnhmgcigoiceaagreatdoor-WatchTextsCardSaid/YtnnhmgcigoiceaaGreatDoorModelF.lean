/-
  Models of Go functions, written by program; nothing is claimed here.
-/
import Derived.Test.YtnnhmgcigoiceaaGreatDoorModelE
import Derived.Test.YtnnhmgcigoiceaaGreatDoorParseM
import Derived.Test.YtnnhmgcigoiceaaGreatDoorRefPM
namespace Go.Proofs.YtnnhmgcigoiceaaGreatDoor.M
open Go Go.Proofs.YtnnhmgcigoiceaaGreatDoor Go.Proofs.YtnnhmgcigoiceaaGreatDoor.Wh

/-- waterhour/waterhourref07.Parse -/
def f8 (fuel : Nat) (p0 : ByteArray) : Option (S_api_Turn × Int) :=
  (if (decide (40 < (p0.size : Int))) = true then (
  some (((0, 0, 0, 0, 0, 0) : S_api_Turn), 3))
  else (
  (loopM (ρ := ((List Int) ⊕ (S_api_Turn × Int))) (fun s_3 : Int × (List Int) =>
    (if (decide (s_3.1 < (p0.size : Int))) = true then (
    (sidx p0 s_3.1) >>= fun v_8 =>
    (if (v_8 == (32 : UInt8)) = true then (
    (app s_3.2 ([0] : List Int)) >>= fun z_10 =>
    some (.again ((wr (s_3.1 + 1)), z_10)))
    else (
    (sidx p0 s_3.1) >>= fun v_13 =>
    (guardO (decide ((48 : UInt8) ≤ v_13)) (sidx p0 s_3.1)) >>= fun v_15 =>
    (if ((decide ((48 : UInt8) ≤ v_13)) && (decide (v_15 ≤ (57 : UInt8)))) = true then (
    (idx s_3.2 (wr ((s_3.2.length : Int) - 1))) >>= fun v_17 =>
    (sidx p0 s_3.1) >>= fun v_19 =>
    (idx s_3.2 (wr ((s_3.2.length : Int) - 1))) >>= fun v_21 =>
    (set1 s_3.2 (wr ((s_3.2.length : Int) - 1)) (imin (wr ((wr (10 * v_17)) + ((v_19 - (48 : UInt8)).toNat : Int))) 33554432)) >>= fun z_23 =>
    some (.again ((wr (s_3.1 + 1)), z_23)))
    else (
    some (.leave (.inr (((0, 0, 0, 0, 0, 0) : S_api_Turn), 3))))))))
    else (
    some (.leave (.inl s_3.2))))) fuel ((0, ([0] : List Int)) : Int × (List Int))) >>= fun o_4 =>
  (fun x_ => sumE x_ (fun p_40 =>
    (if ((p_40.length : Int) != 6) = true then (
    some (((0, 0, 0, 0, 0, 0) : S_api_Turn), 3))
    else (
    (idx p_40 0) >>= fun v_41 =>
    (idx p_40 1) >>= fun v_43 =>
    (idx p_40 2) >>= fun v_45 =>
    (idx p_40 3) >>= fun v_47 =>
    (idx p_40 4) >>= fun v_49 =>
    (idx p_40 5) >>= fun v_51 =>
    (M.f6 (((v_41, v_43, v_45, v_47, v_49, v_51) : S_api_Turn) : S_api_Turn)) >>= fun v_54 =>
    (if ((v_54.2 != 0) || (v_54.1 != p0)) = true then (
    some (((0, 0, 0, 0, 0, 0) : S_api_Turn), 3))
    else (
    some ((((v_41, v_43, v_45, v_47, v_49, v_51) : S_api_Turn) : S_api_Turn), 0)))))) (fun p_56 =>
    some (p_56.1, p_56.2))) o_4))

/-- waterhour/waterhourlaw07.WatchTexts -/
def f3 (fuel : Nat) (p0 : S_api_Turn) (p1 : ByteArray) : Option Bool :=
  (M.f4 fuel ) >>= fun v_1 =>
  (if (!v_1) = true then (
  some false)
  else (
  (if (decide (1000 < (p1.size : Int))) = true then (
  some true)
  else (
  (M.f5 p0) >>= fun v_3 =>
  (M.f6 p0) >>= fun v_5 =>
  (M.f7 p1) >>= fun v_7 =>
  (M.f8 fuel p1) >>= fun v_9 =>
  (if ((((v_3.1 != v_5.1) || (v_3.2 != v_5.2)) || (v_7.1 != v_9.1)) || (v_7.2 != v_9.2)) = true then (
  some false)
  else (
  (if (v_3.2 == 0) = true then (
  (M.f7 v_3.1) >>= fun v_11 =>
  (if ((v_11.2 != 0) || (v_11.1 != p0)) = true then (
  some false)
  else (
  (if (v_7.2 == 0) = true then (
  (M.f5 v_7.1) >>= fun v_13 =>
  (if ((v_13.2 != 0) || (v_13.1 != p1)) = true then (
  some false)
  else (
  some true)))
  else (
  some true)))))
  else (
  (if (v_7.2 == 0) = true then (
  (M.f5 v_7.1) >>= fun v_15 =>
  (if ((v_15.2 != 0) || (v_15.1 != p1)) = true then (
  some false)
  else (
  some true)))
  else (
  some true))))))))))

end Go.Proofs.YtnnhmgcigoiceaaGreatDoor.M
