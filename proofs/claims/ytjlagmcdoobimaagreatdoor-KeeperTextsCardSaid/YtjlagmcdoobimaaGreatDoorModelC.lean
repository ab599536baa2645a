/-
  Models of Go functions, written by program; nothing is claimed here.
-/
import Derived.Test.YtjlagmcdoobimaaGreatDoorModelB2
namespace Go.Proofs.YtjlagmcdoobimaaGreatDoor.M
open Go Go.Proofs.YtjlagmcdoobimaaGreatDoor Go.Proofs.YtjlagmcdoobimaaGreatDoor.Wh

/-- waterhour/keeper.Print -/
def f5 (p0 : S_api_Offer) : Option (ByteArray × Int) :=
  (M.f22 p0 8 10000) >>= fun v_1 =>
  (if (!v_1) = true then (
  some ((⟨#[]⟩ : ByteArray), 1))
  else (
  (forS 0 4 (([] : List ByteArray) : (List ByteArray)) fun i_3 s_5 =>
    (idxA (#v[p0.1, p0.2.1, p0.2.2.1, p0.2.2.2] : Vector Int 4) i_3) >>= fun v_10 =>
    (M.f23 v_10) >>= fun v_12 =>
    (app s_5 ([v_12] : List ByteArray)) >>= fun z_14 =>
    some z_14) >>= fun s_5 =>
  (M.f24 s_5 (⟨#[32]⟩ : ByteArray)) >>= fun v_17 =>
  some (v_17, 0)))

/-- waterhour/waterhourref08.within -/
def f51 (p0 : Int) (p1 : Int) (p2 : Int) : Option Bool :=
  some ((decide (p1 ≤ p0)) && (decide (p0 ≤ p2)))

/-- waterhour/waterhourref08.isOffer -/
def f25 (p0 : S_api_Offer) (p1 : Int) (p2 : Int) : Option Bool :=
  (M.f51 p0.1 0 (wr (p1 - 1))) >>= fun v_1 =>
  (guardO v_1 (M.f51 p0.2.1 0 (wr (p1 - 1)))) >>= fun v_3 =>
  (guardO ((v_1 && v_3) && (p0.1 != p0.2.1)) (M.f51 p0.2.2.1 0 p2)) >>= fun v_5 =>
  (guardO (((v_1 && v_3) && (p0.1 != p0.2.1)) && v_5) (M.f51 p0.2.2.2 0 1048576)) >>= fun v_7 =>
  some ((((v_1 && v_3) && (p0.1 != p0.2.1)) && v_5) && v_7)

/-- waterhour/waterhourref08.Print -/
def f6 (p0 : S_api_Offer) : Option (ByteArray × Int) :=
  (M.f25 p0 8 10000) >>= fun v_1 =>
  (if (!v_1) = true then (
  some ((⟨#[]⟩ : ByteArray), 1))
  else (
  (M.f23 p0.1) >>= fun v_3 =>
  (cat v_3 (⟨#[32]⟩ : ByteArray)) >>= fun v_5 =>
  (M.f23 p0.2.1) >>= fun v_7 =>
  (cat v_5 v_7) >>= fun v_9 =>
  (cat v_9 (⟨#[32]⟩ : ByteArray)) >>= fun v_11 =>
  (M.f23 p0.2.2.1) >>= fun v_13 =>
  (cat v_11 v_13) >>= fun v_15 =>
  (cat v_15 (⟨#[32]⟩ : ByteArray)) >>= fun v_17 =>
  (M.f23 p0.2.2.2) >>= fun v_19 =>
  (cat v_17 v_19) >>= fun v_21 =>
  some (v_21, 0)))

/-- waterhour/keeper.Parse -/
def f7 (p0 : ByteArray) : Option (S_api_Offer × Int) :=
  (M.f26 p0 (⟨#[32]⟩ : ByteArray)) >>= fun v_2 =>
  (if ((v_2.length : Int) != 4) = true then (
  some (((0, 0, 0, 0) : S_api_Offer), 3))
  else (
  (forM (ρ := (S_api_Offer × Int)) 0 (v_2.length : Int) ((#v[0, 0, 0, 0] : Vector Int 4) : (Vector Int 4)) fun i_5 s_7 =>
    (idx v_2 i_5) >>= fun v_11 =>
    (M.f27 v_11) >>= fun v_13 =>
    (if (v_13.2.bad) = true then (
    some (.leave (((0, 0, 0, 0) : S_api_Offer), 3)))
    else (
    (idxA s_7 i_5) >>= fun _v_15 =>
    (setA s_7 i_5 v_13.1) >>= fun z_17 =>
    some (.again z_17)))) >>= fun o_8 => Out.elim o_8 (fun s_7 =>
    (idxA s_7 0) >>= fun v_19 =>
    (idxA s_7 1) >>= fun v_21 =>
    (idxA s_7 2) >>= fun v_23 =>
    (idxA s_7 3) >>= fun v_25 =>
    (M.f5 ((v_19, v_21, v_23, v_25) : S_api_Offer)) >>= fun v_27 =>
    (if ((v_27.2 != 0) || (v_27.1 != p0)) = true then (
    some (((0, 0, 0, 0) : S_api_Offer), 3))
    else (
    some (((v_19, v_21, v_23, v_25) : S_api_Offer), 0)))) (fun p_29 =>
    some (p_29.1, p_29.2))))

/-- waterhour/waterhourref08.number -/
def f28 (fuel : Nat) (p0 : ByteArray) : Option Int :=
  (loopM (ρ := (Int ⊕ Int)) (fun s_1 : Int × Int =>
    (if (decide (s_1.2 < (p0.size : Int))) = true then (
    (sidx p0 s_1.2) >>= fun v_5 =>
    (guardO (!(decide (v_5 < (48 : UInt8)))) (sidx p0 s_1.2)) >>= fun v_7 =>
    (if (((decide (v_5 < (48 : UInt8))) || (decide ((57 : UInt8) < v_7))) || (decide (10000000 < s_1.1))) = true then (
    some (.leave (.inr (-1))))
    else (
    (sidx p0 s_1.2) >>= fun v_9 =>
    some (.again ((wr ((wr (10 * s_1.1)) + ((v_9 - (48 : UInt8)).toNat : Int))), (wr (s_1.2 + 1)))))))
    else (
    some (.leave (.inl s_1.1))))) fuel ((0, 0) : Int × Int)) >>= fun o_2 =>
  (fun x_ => sumE x_ (fun p_11 =>
    (if (p0 == (⟨#[]⟩ : ByteArray)) = true then (
    some (-1))
    else (
    some p_11))) (fun p_12 =>
    some p_12)) o_2

/-- waterhour/waterhourref08.Parse -/
def f8 (fuel : Nat) (p0 : ByteArray) : Option (S_api_Offer × Int) :=
  (loopM (ρ := (List ByteArray)) (fun s_3 : Int × (List ByteArray) =>
    (if (decide (s_3.1 < (p0.size : Int))) = true then (
    (sidx p0 s_3.1) >>= fun v_8 =>
    (if (v_8 == (32 : UInt8)) = true then (
    (app s_3.2 ([(⟨#[]⟩ : ByteArray)] : List ByteArray)) >>= fun z_13 =>
    some z_13)
    else (
    (idx s_3.2 (wr ((s_3.2.length : Int) - 1))) >>= fun v_16 =>
    (ssub p0 s_3.1 (wr (s_3.1 + 1))) >>= fun v_18 =>
    (cat v_16 v_18) >>= fun v_20 =>
    (idx s_3.2 (wr ((s_3.2.length : Int) - 1))) >>= fun _v_22 =>
    (set1 s_3.2 (wr ((s_3.2.length : Int) - 1)) v_20) >>= fun z_24 =>
    some z_24)) >>= fun y_11 =>
    some (.again ((wr (s_3.1 + 1)), y_11)))
    else (
    some (.leave s_3.2)))) fuel ((0, ([(⟨#[]⟩ : ByteArray)] : List ByteArray)) : Int × (List ByteArray))) >>= fun o_4 =>
  (fun p_45 =>
    (if ((p_45.length : Int) != 4) = true then (
    some (((0, 0, 0, 0) : S_api_Offer), 3))
    else (
    (idx p_45 0) >>= fun v_46 =>
    (M.f28 fuel v_46) >>= fun v_48 =>
    (idx p_45 1) >>= fun v_50 =>
    (M.f28 fuel v_50) >>= fun v_52 =>
    (idx p_45 2) >>= fun v_54 =>
    (M.f28 fuel v_54) >>= fun v_56 =>
    (idx p_45 3) >>= fun v_58 =>
    (M.f28 fuel v_58) >>= fun v_60 =>
    (M.f6 (((v_48, v_52, v_56, v_60) : S_api_Offer) : S_api_Offer)) >>= fun v_63 =>
    (if ((v_63.2 != 0) || (v_63.1 != p0)) = true then (
    some (((0, 0, 0, 0) : S_api_Offer), 3))
    else (
    some ((((v_48, v_52, v_56, v_60) : S_api_Offer) : S_api_Offer), 0)))))) o_4

/-- waterhour/waterhourlaw08.KeeperTexts -/
def f3 (fuel : Nat) (p0 : S_api_Offer) (p1 : ByteArray) : Option Bool :=
  (M.f4 fuel ) >>= fun v_1 =>
  (if (!v_1) = true then (
  some false)
  else (
  (if (decide (200 < (p1.size : Int))) = true then (
  some true)
  else (
  (M.f5 p0) >>= fun v_3 =>
  (M.f6 p0) >>= fun v_5 =>
  (M.f7 p1) >>= fun v_7 =>
  (M.f8 fuel p1) >>= fun v_9 =>
  (if ((((v_3.1 != v_5.1) || (v_3.2 != v_5.2)) || (v_7.1 != v_9.1)) || (v_7.2 != v_9.2)) = true then (
  some false)
  else (
  (if (v_3.2 == 0) = true then (
  (M.f7 v_3.1) >>= fun v_11 =>
  (if ((v_11.2 != 0) || (v_11.1 != p0)) = true then (
  some false)
  else (
  (M.f5 v_7.1) >>= fun v_13 =>
  some ((v_7.2 != 0) || ((v_13.2 == 0) && (v_13.1 == p1))))))
  else (
  (M.f5 v_7.1) >>= fun v_15 =>
  some ((v_7.2 != 0) || ((v_15.2 == 0) && (v_15.1 == p1)))))))))))

end Go.Proofs.YtjlagmcdoobimaaGreatDoor.M
