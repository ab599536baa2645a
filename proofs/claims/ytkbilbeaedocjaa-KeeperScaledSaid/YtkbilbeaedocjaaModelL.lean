/-
  Models of Go functions, written by program; nothing is claimed here.
-/
import Derived.Test.YtkbilbeaedocjaaModelK
namespace Go.Proofs.Ytkbilbeaedocjaa.M
open Go Go.Proofs.Ytkbilbeaedocjaa Go.Proofs.Ytkbilbeaedocjaa.Wh

/-- waterhour/waterhourlaw08.KeeperScaled -/
def f7 (fuel : Nat) (p0 : S_api_Market) (p1 : List Int) (p2 : Int) (p3 : Int) (p4 : Int) (p5 : Int) (p6 : Int) : Option Bool :=
  (M.f16 fuel ) >>= fun v_1 =>
  (if (!v_1) = true then (
  some false)
  else (
  (M.f31 fuel p0 p1 ([p2, p3] : List Int)) >>= fun v_3 =>
  (if (((((((!v_3) || (decide (p4 < 0))) || (decide (16777216 < p4))) || (decide (p6 < 1))) || (decide (1000 < p6))) || (decide (p5 < 0))) || (decide ((p0.2.2.length : Int) ≤ p5))) = true then (
  some true)
  else (
  (forS 0 (p0.2.1.length : Int) (([] : List S_api_Offer) : (List S_api_Offer)) fun i_7 s_9 =>
    (idx p0.2.1 i_7) >>= fun v_14 =>
    (app s_9 ([((v_14.1, v_14.2.1, 0, (wr (v_14.2.2.2 * p6))) : S_api_Offer)] : List S_api_Offer)) >>= fun z_16 =>
    some z_16) >>= fun s_9 =>
  (forS 0 (p0.2.2.length : Int) ((([] : List S_api_Offer), ([] : List S_api_Offer)) : (List S_api_Offer) × (List S_api_Offer)) fun i_19 s_21 =>
    (idx p0.2.2 i_19) >>= fun v_27 =>
    (app s_21.1 ([((v_27.1, v_27.2.1, v_27.2.2.1, (wr (v_27.2.2.2 * p6))) : S_api_Offer)] : List S_api_Offer)) >>= fun z_29 =>
    (app s_21.2 ([((v_27.1, v_27.2.1, (wr (v_27.2.2.1 * p6)), v_27.2.2.2) : S_api_Offer)] : List S_api_Offer)) >>= fun z_32 =>
    some (z_29, z_32)) >>= fun s_21 =>
  (M.f25 p0 p2 p3 p4) >>= fun v_35 =>
  (M.f33 p0 p1 p2 p3) >>= fun v_37 =>
  (if ((v_35.2.2 != 0) || (v_37.2.2 != 0)) = true then (
  some false)
  else (
  (M.f41 ((p0.1, s_9, s_21.1) : S_api_Market)) >>= fun v_39 =>
  (guardO (v_39 == 0) (M.f42 fuel ((p0.1, s_9, s_21.1) : S_api_Market))) >>= fun v_41 =>
  (if ((v_39 == 0) && (v_41 == 0)) = true then (
  (M.f33 ((p0.1, s_9, s_21.1) : S_api_Market) p1 p2 p3) >>= fun v_43 =>
  (if (((v_43.2.2 != 0) || (v_43.2.1 != v_37.2.1)) || (v_43.1 != (wr (v_37.1 * p6)))) = true then (
  some false)
  else (
  (if (decide ((wr (p4 * p6)) ≤ 16777216)) = true then (
  (M.f25 ((p0.1, s_9, s_21.1) : S_api_Market) p2 p3 (wr (p4 * p6))) >>= fun v_45 =>
  (guardO (!((v_45.2.2 != 0) || (v_45.2.1 != v_35.2.1))) (M.f24 v_45.1 v_35.1)) >>= fun v_47 =>
  (if (((v_45.2.2 != 0) || (v_45.2.1 != v_35.2.1)) || (!v_47)) = true then (
  some false)
  else (
  (M.f41 ((p0.1, p0.2.1, s_21.2) : S_api_Market)) >>= fun v_49 =>
  (guardO (!(v_49 != 0)) (M.f42 fuel ((p0.1, p0.2.1, s_21.2) : S_api_Market))) >>= fun v_51 =>
  (if ((v_49 != 0) || (v_51 != 0)) = true then (
  some true)
  else (
  (M.f25 ((p0.1, p0.2.1, s_21.2) : S_api_Market) p2 p3 p4) >>= fun v_53 =>
  (M.f37 p0 v_35.1) >>= fun v_55 =>
  (M.f37 ((p0.1, p0.2.1, s_21.2) : S_api_Market) v_35.1) >>= fun v_57 =>
  (M.f20 p0 p2 p3 p4 p5) >>= fun v_59 =>
  (M.f20 ((p0.1, p0.2.1, s_21.2) : S_api_Market) p2 p3 p4 p5) >>= fun v_61 =>
  (guardO ((((v_53.2.2 == 0) && (v_55.2 == 0)) && (v_57.2 == 0)) && (v_53.2.1 == v_35.2.1)) (M.f24 v_53.1 v_35.1)) >>= fun v_63 =>
  some (((((((((v_53.2.2 == 0) && (v_55.2 == 0)) && (v_57.2 == 0)) && (v_53.2.1 == v_35.2.1)) && v_63) && (v_57.1 == (wr (p6 * v_55.1)))) && (v_59.2.2 == v_61.2.2)) && (v_59.2.1 == v_61.2.1)) && (v_61.1 == (wr (p6 * v_59.1)))))))))
  else (
  (M.f41 ((p0.1, p0.2.1, s_21.2) : S_api_Market)) >>= fun v_65 =>
  (guardO (!(v_65 != 0)) (M.f42 fuel ((p0.1, p0.2.1, s_21.2) : S_api_Market))) >>= fun v_67 =>
  (if ((v_65 != 0) || (v_67 != 0)) = true then (
  some true)
  else (
  (M.f25 ((p0.1, p0.2.1, s_21.2) : S_api_Market) p2 p3 p4) >>= fun v_69 =>
  (M.f37 p0 v_35.1) >>= fun v_71 =>
  (M.f37 ((p0.1, p0.2.1, s_21.2) : S_api_Market) v_35.1) >>= fun v_73 =>
  (M.f20 p0 p2 p3 p4 p5) >>= fun v_75 =>
  (M.f20 ((p0.1, p0.2.1, s_21.2) : S_api_Market) p2 p3 p4 p5) >>= fun v_77 =>
  (guardO ((((v_69.2.2 == 0) && (v_71.2 == 0)) && (v_73.2 == 0)) && (v_69.2.1 == v_35.2.1)) (M.f24 v_69.1 v_35.1)) >>= fun v_79 =>
  some (((((((((v_69.2.2 == 0) && (v_71.2 == 0)) && (v_73.2 == 0)) && (v_69.2.1 == v_35.2.1)) && v_79) && (v_73.1 == (wr (p6 * v_71.1)))) && (v_75.2.2 == v_77.2.2)) && (v_75.2.1 == v_77.2.1)) && (v_77.1 == (wr (p6 * v_75.1)))))))))))
  else (
  (M.f41 ((p0.1, p0.2.1, s_21.2) : S_api_Market)) >>= fun v_81 =>
  (guardO (!(v_81 != 0)) (M.f42 fuel ((p0.1, p0.2.1, s_21.2) : S_api_Market))) >>= fun v_83 =>
  (if ((v_81 != 0) || (v_83 != 0)) = true then (
  some true)
  else (
  (M.f25 ((p0.1, p0.2.1, s_21.2) : S_api_Market) p2 p3 p4) >>= fun v_85 =>
  (M.f37 p0 v_35.1) >>= fun v_87 =>
  (M.f37 ((p0.1, p0.2.1, s_21.2) : S_api_Market) v_35.1) >>= fun v_89 =>
  (M.f20 p0 p2 p3 p4 p5) >>= fun v_91 =>
  (M.f20 ((p0.1, p0.2.1, s_21.2) : S_api_Market) p2 p3 p4 p5) >>= fun v_93 =>
  (guardO ((((v_85.2.2 == 0) && (v_87.2 == 0)) && (v_89.2 == 0)) && (v_85.2.1 == v_35.2.1)) (M.f24 v_85.1 v_35.1)) >>= fun v_95 =>
  some (((((((((v_85.2.2 == 0) && (v_87.2 == 0)) && (v_89.2 == 0)) && (v_85.2.1 == v_35.2.1)) && v_95) && (v_89.1 == (wr (p6 * v_87.1)))) && (v_91.2.2 == v_93.2.2)) && (v_91.2.1 == v_93.2.1)) && (v_93.1 == (wr (p6 * v_91.1))))))))))))))

end Go.Proofs.Ytkbilbeaedocjaa.M
