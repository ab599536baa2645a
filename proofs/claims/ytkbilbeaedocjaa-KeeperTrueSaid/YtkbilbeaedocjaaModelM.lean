/-
  Models of Go functions, written by program; nothing is claimed here.
-/
import Derived.Test.YtkbilbeaedocjaaModelK0
import Derived.Test.YtkbilbeaedocjaaModelP
import Derived.Test.YtkbilbeaedocjaaModelS
namespace Go.Proofs.Ytkbilbeaedocjaa.M
open Go Go.Proofs.Ytkbilbeaedocjaa Go.Proofs.Ytkbilbeaedocjaa.Wh

/-- waterhour/waterhourlaw08.KeeperTrue$1 -/
def f67 (p0 : S_api_Offer) (c0 : List Int) (c1 : Int) (c2 : List Int) : Option (S_api_Span × Int) :=
  (rem c1 (c0.length : Int)) >>= fun v_2 =>
  (idx c0 v_2) >>= fun v_4 =>
  (idx c2 p0.2.1) >>= fun v_6 =>
  (idx c2 p0.1) >>= fun v_8 =>
  some ((((wr ((wr (v_6 - v_8)) - (imin (imax v_4 0) p0.2.2.2))), (wr ((wr ((wr (v_6 - v_8)) - (imin (imax v_4 0) p0.2.2.2))) + p0.2.2.2))) : S_api_Span), (wr (c1 + 1)))

/-- waterhour/waterhourlaw08.KeeperTrue -/
def f15 (fuel : Nat) (p0 : S_api_Market) (p1 : List Int) (p2 : List Int) (p3 : List Int) (p4 : Int) (p5 : Int) (p6 : List Int) (p7 : Int) : Option Bool :=
  (M.f16 fuel ) >>= fun v_1 =>
  (if (!v_1) = true then (
  some false)
  else (
  (M.f31 fuel p0 p1 ([p4, p5] : List Int)) >>= fun v_3 =>
  (guardO (!(((((!v_3) || (decide ((p2.length : Int) < p0.1))) || (decide (100 < (p2.length : Int)))) || ((p3.length : Int) == 0)) || (decide (100 < (p3.length : Int))))) (M.f55 ([p6] : List (List Int)))) >>= fun v_5 =>
  (if ((((((!v_3) || (decide ((p2.length : Int) < p0.1))) || (decide (100 < (p2.length : Int)))) || ((p3.length : Int) == 0)) || (decide (100 < (p3.length : Int)))) || (!v_5)) = true then (
  some true)
  else (
  (forM (ρ := Bool) 0 (p2.length : Int) (() : Unit) fun i_7 s_9 =>
    (idx p2 i_7) >>= fun v_13 =>
    (if ((decide (v_13 < (-16777216))) || (decide (16777216 < v_13))) = true then (
    some (.leave true))
    else (
    some (.again ())))) >>= fun o_10 => Out.elim o_10 (fun s_9 =>
    (forS 0 (p0.2.1.length : Int) (((0 : Int), ([] : List S_api_Span)) : Int × (List S_api_Span)) fun i_16 s_18 =>
      (idx p0.2.1 i_16) >>= fun v_23 =>
      (M.f67 v_23 p3 s_18.1 p2) >>= fun z_25 =>
      (app s_18.2 ([z_25.1] : List S_api_Span)) >>= fun z_28 =>
      some (z_25.2, z_28)) >>= fun s_18 =>
    (forS 0 (p1.length : Int) ((s_18.1, ([] : List S_api_Span)) : Int × (List S_api_Span)) fun i_31 s_33 =>
      (idx p1 i_31) >>= fun v_38 =>
      (idx p0.2.2 v_38) >>= fun v_40 =>
      (M.f67 v_40 p3 s_33.1 p2) >>= fun z_42 =>
      (app s_33.2 ([z_42.1] : List S_api_Span)) >>= fun z_45 =>
      some (z_42.2, z_45)) >>= fun s_33 =>
    (M.f61 p0 p1 p4 p5 s_18.2 s_33.2) >>= fun v_48 =>
    (M.f33 p0 p1 p4 p5) >>= fun v_50 =>
    (if (((v_48.2.2 != 0) || (v_50.2.2 != 0)) || (v_48.2.1 != v_50.2.1)) = true then (
    some false)
    else (
    (if (!v_48.2.1) = true then (
    (M.f66 fuel p0 p1 p4 p5) >>= fun v_52 =>
    (guardO (v_52.2 == 4) (M.f64 p0 p1 p4 p5 16777216 p6)) >>= fun v_54 =>
    some ((v_52.2 == 4) && (v_54 != 0)))
    else (
    (idx p2 p5) >>= fun v_56 =>
    (idx p2 p4) >>= fun v_58 =>
    (if ((((decide ((wr (v_56 - v_58)) < v_48.1.1)) || (decide (v_48.1.2 < (wr (v_56 - v_58))))) || (decide (v_50.1 < (wr (v_48.1.2 - v_48.1.1))))) || (decide (v_50.1 < 0))) = true then (
    some false)
    else (
    (guardO (((decide (0 < v_50.1)) && (decide (0 ≤ p7))) && (decide (p7 < v_50.1))) (M.f64 p0 p1 p4 p5 p7 p6)) >>= fun v_60 =>
    (if ((((decide (0 < v_50.1)) && (decide (0 ≤ p7))) && (decide (p7 < v_50.1))) && (v_60 == 0)) = true then (
    some false)
    else (
    (M.f63 p0 p1 p4 p5) >>= fun v_62 =>
    (M.f61 p0 p1 p4 p5 v_62.1 v_62.2.1) >>= fun v_64 =>
    (M.f66 fuel p0 p1 p4 p5) >>= fun v_66 =>
    (guardO (((((v_62.2.2 == 0) && (v_64.2.2 == 0)) && (v_66.2 == 0)) && v_64.2.1) && ((wr (v_64.1.2 - v_64.1.1)) == v_50.1)) (M.f64 p0 p1 p4 p5 v_50.1 v_66.1)) >>= fun v_68 =>
    some ((((((v_62.2.2 == 0) && (v_64.2.2 == 0)) && (v_66.2 == 0)) && v_64.2.1) && ((wr (v_64.1.2 - v_64.1.1)) == v_50.1)) && (v_68 == 0))))))))))) (fun p_70 =>
    some p_70)))))

end Go.Proofs.Ytkbilbeaedocjaa.M
