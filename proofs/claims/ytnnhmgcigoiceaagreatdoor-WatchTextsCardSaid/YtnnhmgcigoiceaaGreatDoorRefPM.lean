/-
  The model of the specification's Print; nothing is claimed here.
-/
import Derived.Test.YtnnhmgcigoiceaaGreatDoorModelE
namespace Go.Proofs.YtnnhmgcigoiceaaGreatDoor.M
open Go Go.Proofs.YtnnhmgcigoiceaaGreatDoor Go.Proofs.YtnnhmgcigoiceaaGreatDoor.Wh

/-- waterhour/waterhourref07.Print -/
def f6 (p0 : S_api_Turn) : Option (ByteArray × Int) :=
  (M.f29 p0) >>= fun v_1 =>
  (if (!v_1) = true then (
  some ((⟨#[]⟩ : ByteArray), 1))
  else (
  (M.f27 p0.1) >>= fun v_3 =>
  (cat v_3 (⟨#[32]⟩ : ByteArray)) >>= fun v_5 =>
  (M.f27 p0.2.1) >>= fun v_7 =>
  (cat v_5 v_7) >>= fun v_9 =>
  (cat v_9 (⟨#[32]⟩ : ByteArray)) >>= fun v_11 =>
  (M.f27 p0.2.2.1) >>= fun v_13 =>
  (cat v_11 v_13) >>= fun v_15 =>
  (cat v_15 (⟨#[32]⟩ : ByteArray)) >>= fun v_17 =>
  (M.f27 p0.2.2.2.1) >>= fun v_19 =>
  (cat v_17 v_19) >>= fun v_21 =>
  (cat v_21 (⟨#[32]⟩ : ByteArray)) >>= fun v_23 =>
  (M.f27 p0.2.2.2.2.1) >>= fun v_25 =>
  (cat v_23 v_25) >>= fun v_27 =>
  (cat v_27 (⟨#[32]⟩ : ByteArray)) >>= fun v_29 =>
  (M.f27 p0.2.2.2.2.2) >>= fun v_31 =>
  (cat v_29 v_31) >>= fun v_33 =>
  some (v_33, 0)))
end Go.Proofs.YtnnhmgcigoiceaaGreatDoor.M
