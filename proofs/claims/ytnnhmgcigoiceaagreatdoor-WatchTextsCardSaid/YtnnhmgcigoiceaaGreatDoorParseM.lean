/-
  The model of the watch's Parse, by hand; nothing is claimed here.
-/
import Derived.Test.YtnnhmgcigoiceaaGreatDoorModelE
namespace Go.Proofs.YtnnhmgcigoiceaaGreatDoor.M
open Go Go.Proofs.YtnnhmgcigoiceaaGreatDoor Go.Proofs.YtnnhmgcigoiceaaGreatDoor.Wh

/-- A turn with another number at the place i. -/
def setP (t : S_api_Turn) (i n : Int) : Option S_api_Turn := if 0 ≤ i then (match i.toNat with
  | 0 => some (n, t.2)
  | 1 => some (t.1, n, t.2.2)
  | 2 => some (t.1, t.2.1, n, t.2.2.2)
  | 3 => some (t.1, t.2.1, t.2.2.1, n, t.2.2.2.2)
  | 4 => some (t.1, t.2.1, t.2.2.1, t.2.2.2.1, n, t.2.2.2.2.2)
  | 5 => some (t.1, t.2.1, t.2.2.1, t.2.2.2.1, t.2.2.2.2.1, n)
  | _ => none) else none
/-- waterhour/watch.Parse -/
def f7 (p0 : ByteArray) : Option (S_api_Turn × Int) :=
  (M.f30 p0 (⟨#[32]⟩ : ByteArray)) >>= fun v_2 =>
  (forM (ρ := (S_api_Turn × Int)) 0 (v_2.length : Int) (((0, 0, 0, 0, 0, 0) : S_api_Turn)) fun i_5 s_7 =>
    (idx v_2 i_5) >>= fun v_11 =>
    (M.f31 v_11) >>= fun v_13 =>
    (if (v_13.2.bad || decide (6 ≤ i_5)) = true then (
    some (.leave (((0, 0, 0, 0, 0, 0) : S_api_Turn), 3)))
    else (
    (setP s_7 i_5 v_13.1) >>= fun z_17 =>
    some (.again z_17)))) >>= fun o_8 => Out.elim o_8 (fun s_7 =>
    (M.f5 s_7) >>= fun v_27 =>
    (if ((v_27.2 != 0) || (v_27.1 != p0)) = true then (
    some (((0, 0, 0, 0, 0, 0) : S_api_Turn), 3))
    else (
    some (s_7, 0)))) (fun p_29 =>
    some (p_29.1, p_29.2))
end Go.Proofs.YtnnhmgcigoiceaaGreatDoor.M
