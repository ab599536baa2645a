/-
  Models of Go functions, written by program; nothing is claimed here.
-/
import Derived.Test.YtkbilbeaedocjaaModelG
import Derived.Test.YtkbilbeaedocjaaModelK
import Derived.Test.YtkbilbeaedocjaaGivenMc
namespace Go.Proofs.Ytkbilbeaedocjaa.M
open Go Go.Proofs.Ytkbilbeaedocjaa Go.Proofs.Ytkbilbeaedocjaa.Wh

/-- waterhour/waterhourlaw08.renamed$1 -/
def f91 (p0 : Int) (c0 : Int) (c1 : Int) : Option Int :=
  (if (p0 == c0) = true then (
  some c1)
  else (
  (if (p0 == c1) = true then (
  some c0)
  else (
  some p0))))

/-- waterhour/waterhourlaw08.renamed -/
def f32 (p0 : S_api_Market) (p1 : Int) (p2 : Int) : Option S_api_Market :=
  (forS 0 (p0.2.1.length : Int) (([] : List S_api_Offer) : (List S_api_Offer)) fun i_3 s_5 =>
    (idx p0.2.1 i_3) >>= fun v_10 =>
    (((fun x0 => M.f91 x0 p1 p2) : (Int → Option Int)) v_10.1) >>= fun v_12 =>
    (((fun x0 => M.f91 x0 p1 p2) : (Int → Option Int)) v_10.2.1) >>= fun v_14 =>
    (app s_5 ([((v_12, v_14, v_10.2.2.1, v_10.2.2.2) : S_api_Offer)] : List S_api_Offer)) >>= fun z_16 =>
    some z_16) >>= fun s_5 =>
  (forS 0 (p0.2.2.length : Int) (([] : List S_api_Offer) : (List S_api_Offer)) fun i_19 s_21 =>
    (idx p0.2.2 i_19) >>= fun v_26 =>
    (((fun x0 => M.f91 x0 p1 p2) : (Int → Option Int)) v_26.1) >>= fun v_28 =>
    (((fun x0 => M.f91 x0 p1 p2) : (Int → Option Int)) v_26.2.1) >>= fun v_30 =>
    (app s_21 ([((v_28, v_30, v_26.2.2.1, v_26.2.2.2) : S_api_Offer)] : List S_api_Offer)) >>= fun z_32 =>
    some z_32) >>= fun s_21 =>
  some ((p0.1, s_5, s_21) : S_api_Market)

/-- waterhour/waterhourlaw08.KeeperNamed -/
def f5 (fuel : Nat) (p0 : S_api_Market) (p1 : List Int) (p2 : Int) (p3 : Int) (p4 : Int) (p5 : Int) : Option Bool :=
  (M.f16 fuel ) >>= fun v_1 =>
  (if (!v_1) = true then (
  some false)
  else (
  (M.f31 fuel p0 p1 ([p2, p3, p4] : List Int)) >>= fun v_3 =>
  (if (((((!v_3) || (decide (p5 < 0))) || (decide (16777216 < p5))) || (p2 == p3)) || (p4 == p3)) = true then (
  some true)
  else (
  (M.f32 p0 p2 p3) >>= fun v_5 =>
  (if (p4 == p2) = true then (
  some p3)
  else (
  some p4)) >>= fun y_8 =>
  (M.f33 p0 p1 p2 p4) >>= fun v_9 =>
  (M.f33 v_5 p1 p3 y_8) >>= fun v_11 =>
  (if ((((v_9.2.2 != 0) || (v_11.2.2 != 0)) || (v_9.1 != v_11.1)) || (v_9.2.1 != v_11.2.1)) = true then (
  some false)
  else (
  (M.f25 p0 p2 p4 p5) >>= fun v_13 =>
  (M.f25 v_5 p3 y_8 p5) >>= fun v_15 =>
  (guardO (!((v_13.2.2 != 0) || (v_15.2.2 != 0))) (M.f24 v_13.1 v_15.1)) >>= fun v_17 =>
  (if ((((v_13.2.2 != 0) || (v_15.2.2 != 0)) || (!v_17)) || (v_13.2.1 != v_15.2.1)) = true then (
  some false)
  else (
  (M.f27 p0 p5) >>= fun v_19 =>
  (M.f27 v_5 p5) >>= fun v_21 =>
  (guardO (!((v_19.2.2 != 0) || (v_21.2.2 != 0))) (M.f24 v_19.1 v_21.1)) >>= fun v_23 =>
  (if ((((v_19.2.2 != 0) || (v_21.2.2 != 0)) || (!v_23)) || (v_19.2.1 != v_21.2.1)) = true then (
  some false)
  else (
  (if (decide (0 < (p0.2.2.length : Int))) = true then (
  (M.f20 p0 p2 p4 p5 0) >>= fun v_25 =>
  (M.f20 v_5 p3 y_8 p5 0) >>= fun v_27 =>
  (if (((v_25.2.2 != v_27.2.2) || (v_25.1 != v_27.1)) || (v_25.2.1 != v_27.2.1)) = true then (
  some false)
  else (
  (M.f34 p0 p2) >>= fun v_29 =>
  (M.f34 v_5 p3) >>= fun v_31 =>
  (if ((((v_29.2 != 0) || (v_31.2 != 0)) || ((v_29.1.length : Int) != p0.1)) || ((v_31.1.length : Int) != p0.1)) = true then (
  some false)
  else (
  (M.f35 v_31.1) >>= fun m_33 =>
  (idx m_33 p3) >>= fun v_37 =>
  (idx m_33 p2) >>= fun v_39 =>
  (idx m_33 p2) >>= fun v_41 =>
  (set1 m_33 p2 v_37) >>= fun z_43 =>
  (idx z_43 p3) >>= fun v_45 =>
  (set1 z_43 p3 v_39) >>= fun z_47 =>
  (M.f36 fuel v_29.1 z_47) >>= fun v_49 =>
  some v_49)))))
  else (
  (M.f34 p0 p2) >>= fun v_51 =>
  (M.f34 v_5 p3) >>= fun v_53 =>
  (if ((((v_51.2 != 0) || (v_53.2 != 0)) || ((v_51.1.length : Int) != p0.1)) || ((v_53.1.length : Int) != p0.1)) = true then (
  some false)
  else (
  (M.f35 v_53.1) >>= fun m_55 =>
  (idx m_55 p3) >>= fun v_59 =>
  (idx m_55 p2) >>= fun v_61 =>
  (idx m_55 p2) >>= fun v_63 =>
  (set1 m_55 p2 v_59) >>= fun z_65 =>
  (idx z_65 p3) >>= fun v_67 =>
  (set1 z_65 p3 v_61) >>= fun z_69 =>
  (M.f36 fuel v_51.1 z_69) >>= fun v_71 =>
  some v_71))))))))))))))

end Go.Proofs.Ytkbilbeaedocjaa.M
