/-
  Models of Go functions, written by program; nothing is claimed here.
-/
import Derived.Test.YtkbilbeaedocjaaModelK0
namespace Go.Proofs.Ytkbilbeaedocjaa.M
open Go Go.Proofs.Ytkbilbeaedocjaa Go.Proofs.Ytkbilbeaedocjaa.Wh

/-- waterhour/waterhourref08.ready -/
def f72 (fuel : Nat) (p0 : S_api_Market) (p1 : List Int) (p2 : Int) (p3 : List Int) : Option Int :=
  (M.f42 fuel p0) >>= fun v_1 =>
  (if (v_1 != 0) = true then (
  some v_1)
  else (
  (M.f88 fuel p0 p1) >>= fun v_3 =>
  (if (!v_3) = true then (
  some 1)
  else (
  (loopM (ρ := (Unit ⊕ Int)) (fun s_5 : Int =>
    (if (decide (s_5 < (p3.length : Int))) = true then (
    (idx p3 s_5) >>= fun v_9 =>
    (M.f80 v_9 0 (wr (p0.1 - 1))) >>= fun v_11 =>
    (if (!v_11) = true then (
    some (.leave (.inr 1)))
    else (
    some (.again (wr (s_5 + 1))))))
    else (
    some (.leave (.inl ()))))) fuel (0 : Int)) >>= fun o_6 =>
  (fun x_ => sumE x_ (fun p_15 =>
    (M.f80 p2 0 16777216) >>= fun v_16 =>
    (if (!v_16) = true then (
    some 1)
    else (
    some 0))) (fun p_18 =>
    some p_18)) o_6))))

/-- waterhour/waterhourref08.whole -/
def f75 (p0 : S_api_Market) : Option Int :=
  (shl 1 (p0.2.2.length : Int)) >>= fun v_1 =>
  some (wr (v_1 - 1))

/-- waterhour/waterhourref08.List -/
def f74 (fuel : Nat) (p0 : S_api_Market) (p1 : Int) : Option (List Int) :=
  (loopM (ρ := (List Int)) (fun s_1 : Int × (List Int) =>
    (if (decide (s_1.1 < (p0.2.2.length : Int))) = true then (
    (shr p1 s_1.1) >>= fun v_6 =>
    (if ((band v_6 1) == 1) = true then (
    (app s_1.2 ([s_1.1] : List Int)) >>= fun z_11 =>
    some z_11)
    else (
    some s_1.2)) >>= fun y_9 =>
    some (.again ((wr (s_1.1 + 1)), y_9)))
    else (
    some (.leave s_1.2)))) fuel ((0, ([] : List Int)) : Int × (List Int))) >>= fun o_2 =>
  (fun p_14 =>
    some p_14) o_2

/-- waterhour/waterhourref08.Comparisons -/
def f102 (fuel : Nat) (p0 : S_api_Market) (p1 : List Int) : Option (List S_api_Offer) :=
  (app ([] : List S_api_Offer) p0.2.1) >>= fun z_1 =>
  (loopM (ρ := (List S_api_Offer)) (fun s_4 : Int × (List S_api_Offer) =>
    (if (decide (s_4.1 < (p1.length : Int))) = true then (
    (idx p1 s_4.1) >>= fun v_9 =>
    (idx p0.2.2 v_9) >>= fun v_11 =>
    (app s_4.2 ([v_11] : List S_api_Offer)) >>= fun z_13 =>
    some (.again ((wr (s_4.1 + 1)), z_13)))
    else (
    some (.leave s_4.2)))) fuel ((0, z_1) : Int × (List S_api_Offer))) >>= fun o_5 =>
  (fun p_16 =>
    some p_16) o_5

/-- waterhour/waterhourref08.widths -/
def f101 (fuel : Nat) (p0 : Int) (p1 : List S_api_Offer) : Option (List (List Int)) :=
  (loopM (ρ := (List (List Int))) (fun s_1 : Int × (List (List Int)) =>
    (if (decide (s_1.1 < p0)) = true then (
    (loopM (ρ := (List Int)) (fun s_8 : Int × (List Int) =>
      (if (decide (s_8.1 < p0)) = true then (
      (app s_8.2 ([1099511627776] : List Int)) >>= fun z_13 =>
      some (.again ((wr (s_8.1 + 1)), z_13)))
      else (
      some (.leave s_8.2)))) fuel ((0, ([] : List Int)) : Int × (List Int))) >>= fun o_9 =>
    (fun p_26 =>
      (app s_1.2 [p_26]) >>= fun z_27 =>
      (idx z_27 s_1.1) >>= fun v_31 =>
      (idx v_31 s_1.1) >>= fun v_33 =>
      (set2 z_27 s_1.1 s_1.1 0) >>= fun z_35 =>
      some (.again ((wr (s_1.1 + 1)), z_35))) o_9)
    else (
    some (.leave s_1.2)))) fuel ((0, ([] : List (List Int))) : Int × (List (List Int)))) >>= fun o_2 =>
  (fun p_134 =>
    (loopM (ρ := (List (List Int))) (fun s_135 : Int × (List (List Int)) =>
      (if (decide (s_135.1 < (p1.length : Int))) = true then (
      (idx p1 s_135.1) >>= fun v_139 =>
      (idx p1 s_135.1) >>= fun v_141 =>
      (idx p1 s_135.1) >>= fun v_143 =>
      (idx s_135.2 v_139.1) >>= fun v_145 =>
      (idx s_135.2 v_139.1) >>= fun v_147 =>
      (idx v_147 v_141.2.1) >>= fun v_149 =>
      (idx v_145 v_141.2.1) >>= fun v_151 =>
      (set2 s_135.2 v_139.1 v_141.2.1 (imin v_149 v_143.2.2.2)) >>= fun z_153 =>
      (idx z_153 v_141.2.1) >>= fun v_155 =>
      (idx z_153 v_141.2.1) >>= fun v_157 =>
      (idx v_157 v_139.1) >>= fun v_159 =>
      (idx v_155 v_139.1) >>= fun v_161 =>
      (set2 z_153 v_141.2.1 v_139.1 (imin v_159 v_143.2.2.2)) >>= fun z_163 =>
      some (.again ((wr (s_135.1 + 1)), z_163)))
      else (
      some (.leave s_135.2)))) fuel ((0, p_134) : Int × (List (List Int)))) >>= fun o_136 =>
    (fun p_198 =>
      (loopM (ρ := (List (List Int))) (fun s_199 : Int × (List (List Int)) =>
        (if (decide (s_199.1 < p0)) = true then (
        (loopM (ρ := (List (List Int))) (fun s_203 : Int × (List (List Int)) =>
          (if (decide (s_203.1 < p0)) = true then (
          (loopM (ρ := (List (List Int))) (fun s_207 : Int × (List (List Int)) =>
            (if (decide (s_207.1 < p0)) = true then (
            (idx s_207.2 s_203.1) >>= fun v_211 =>
            (idx s_207.2 s_203.1) >>= fun v_213 =>
            (idx v_213 s_207.1) >>= fun v_215 =>
            (idx s_207.2 s_203.1) >>= fun v_217 =>
            (idx v_217 s_199.1) >>= fun v_219 =>
            (idx s_207.2 s_199.1) >>= fun v_221 =>
            (idx v_221 s_207.1) >>= fun v_223 =>
            (idx v_211 s_207.1) >>= fun v_225 =>
            (set2 s_207.2 s_203.1 s_207.1 (imin v_215 (wr (v_219 + v_223)))) >>= fun z_227 =>
            some (.again ((wr (s_207.1 + 1)), z_227)))
            else (
            some (.leave s_207.2)))) fuel ((0, s_203.2) : Int × (List (List Int)))) >>= fun o_208 =>
          (fun p_229 =>
            some (.again ((wr (s_203.1 + 1)), p_229))) o_208)
          else (
          some (.leave s_203.2)))) fuel ((0, s_199.2) : Int × (List (List Int)))) >>= fun o_204 =>
        (fun p_230 =>
          some (.again ((wr (s_199.1 + 1)), p_230))) o_204)
        else (
        some (.leave s_199.2)))) fuel ((0, p_198) : Int × (List (List Int)))) >>= fun o_200 =>
      (fun p_231 =>
        some p_231) o_200) o_136) o_2

/-- waterhour/waterhourref08.reaches -/
def f73 (fuel : Nat) (p0 : S_api_Market) (p1 : List Int) (p2 : Int) (p3 : Int) (p4 : Int) : Option Bool :=
  (M.f102 fuel p0 p1) >>= fun v_1 =>
  (M.f101 fuel p0.1 v_1) >>= fun v_3 =>
  (if (p2 != (-1)) = true then (
  (idx v_3 p2) >>= fun v_5 =>
  (idx v_5 p3) >>= fun v_7 =>
  (guardO (decide (v_7 ≤ p4)) (idx v_3 p2)) >>= fun v_9 =>
  (guardO (decide (v_7 ≤ p4)) (idx v_9 p3)) >>= fun v_11 =>
  some ((decide (v_7 ≤ p4)) && (decide (v_11 < 1099511627776))))
  else (
  (loopM (ρ := (Unit ⊕ Bool)) (fun s_13 : Int =>
    (if (decide (s_13 < p0.1)) = true then (
    (loopM (ρ := (Unit ⊕ Bool)) (fun s_17 : Int =>
      (if (decide (s_17 < p0.1)) = true then (
      (idx v_3 s_13) >>= fun v_21 =>
      (idx v_21 s_17) >>= fun v_23 =>
      (guardO (!(decide (p4 < v_23))) (idx v_3 s_13)) >>= fun v_25 =>
      (guardO (!(decide (p4 < v_23))) (idx v_25 s_17)) >>= fun v_27 =>
      (if ((decide (p4 < v_23)) || (decide (1099511627776 ≤ v_27))) = true then (
      some (.leave (.inr false)))
      else (
      some (.again (wr (s_17 + 1))))))
      else (
      some (.leave (.inl ()))))) fuel (0 : Int)) >>= fun o_18 =>
    (fun x_ => sumE x_ (fun p_29 =>
      some (.again (wr (s_13 + 1)))) (fun p_30 =>
      some (.leave (.inr p_30)))) o_18)
    else (
    some (.leave (.inl ()))))) fuel (0 : Int)) >>= fun o_14 =>
  (fun x_ => sumE x_ (fun p_31 =>
    some true) (fun p_32 =>
    some p_32)) o_14))

/-- waterhour/waterhourref08.Needed -/
def f19 (fuel : Nat) (p0 : S_api_Market) (p1 : Int) (p2 : Int) (p3 : Int) : Option ((List Int) × Int) :=
  (M.f72 fuel p0 ([] : List Int) p3 ([p1, p2] : List Int)) >>= fun v_1 =>
  (if (v_1 != 0) = true then (
  some (([] : List Int), v_1))
  else (
  (M.f75 p0) >>= fun v_3 =>
  (M.f74 fuel p0 v_3) >>= fun v_5 =>
  (M.f73 fuel p0 v_5 p1 p2 p3) >>= fun v_7 =>
  (if (!v_7) = true then (
  some (([] : List Int), 4))
  else (
  (loopM (ρ := (List Int)) (fun s_9 : Int × (List Int) =>
    (if (decide (s_9.1 < (p0.2.2.length : Int))) = true then (
    (M.f75 p0) >>= fun v_14 =>
    (shl 1 s_9.1) >>= fun v_16 =>
    (M.f74 fuel p0 (bclr v_14 v_16)) >>= fun v_18 =>
    (M.f73 fuel p0 v_18 p1 p2 p3) >>= fun v_20 =>
    (if (!v_20) = true then (
    (app s_9.2 ([s_9.1] : List Int)) >>= fun z_25 =>
    some z_25)
    else (
    some s_9.2)) >>= fun y_23 =>
    some (.again ((wr (s_9.1 + 1)), y_23)))
    else (
    some (.leave s_9.2)))) fuel ((0, ([] : List Int)) : Int × (List Int))) >>= fun o_10 =>
  (fun p_28 =>
    some (p_28, 0)) o_10))))

/-- waterhour/waterhourref08.cost -/
def f81 (fuel : Nat) (p0 : S_api_Market) (p1 : List Int) : Option Int :=
  (loopM (ρ := Int) (fun s_1 : Int × Int =>
    (if (decide (s_1.2 < (p1.length : Int))) = true then (
    (idx p1 s_1.2) >>= fun v_5 =>
    (idx p0.2.2 v_5) >>= fun v_7 =>
    some (.again ((wr (s_1.1 + v_7.2.2.1)), (wr (s_1.2 + 1)))))
    else (
    some (.leave s_1.1)))) fuel ((0, 0) : Int × Int)) >>= fun o_2 =>
  (fun p_9 =>
    some p_9) o_2

/-- waterhour/waterhourref08.Price -/
def f21 (fuel : Nat) (p0 : S_api_Market) (p1 : Int) (p2 : Int) (p3 : Int) (p4 : Int) : Option (Int × Bool × Int) :=
  (M.f72 fuel p0 ([] : List Int) p3 ([p1, p2] : List Int)) >>= fun v_1 =>
  (if (v_1 != 0) = true then (
  some (0, false, v_1))
  else (
  (M.f80 p4 0 (wr ((p0.2.2.length : Int) - 1))) >>= fun v_3 =>
  (if (!v_3) = true then (
  some (0, false, 1))
  else (
  (M.f75 p0) >>= fun v_5 =>
  (M.f74 fuel p0 v_5) >>= fun v_7 =>
  (M.f73 fuel p0 v_7 p1 p2 p3) >>= fun v_9 =>
  (if (!v_9) = true then (
  some (0, false, 4))
  else (
  (loopM (ρ := (Int × Int)) (fun s_11 : Int × Int × Int =>
    (shl 1 (p0.2.2.length : Int)) >>= fun v_15 =>
    (if (decide (s_11.2.2 < v_15)) = true then (
    (M.f74 fuel p0 s_11.2.2) >>= fun v_17 =>
    (M.f73 fuel p0 v_17 p1 p2 p3) >>= fun v_19 =>
    (if (!v_19) = true then (
    some (.again (s_11.1, s_11.2.1, (wr (s_11.2.2 + 1)))))
    else (
    (shr s_11.2.2 p4) >>= fun v_21 =>
    (if ((band v_21 1) == 1) = true then (
    (M.f81 fuel p0 v_17) >>= fun v_26 =>
    some ((imin s_11.1 v_26), s_11.2.1))
    else (
    (M.f81 fuel p0 v_17) >>= fun v_28 =>
    some (s_11.1, (imin s_11.2.1 v_28)))) >>= fun (y_24, y_25) =>
    some (.again (y_24, y_25, (wr (s_11.2.2 + 1)))))))
    else (
    some (.leave (s_11.1, s_11.2.1))))) fuel ((1099511627776, 1099511627776, 0) : Int × Int × Int)) >>= fun o_12 =>
  (fun p_30 =>
    (if (decide (1099511627776 ≤ p_30.2)) = true then (
    some (0, false, 0))
    else (
    some ((wr (p_30.2 - p_30.1)), true, 0)))) o_12))))))

/-- waterhour/waterhourref08.width -/
def f84 (fuel : Nat) (p0 : S_api_Market) (p1 : List Int) (p2 : Int) (p3 : Int) : Option Int :=
  (M.f102 fuel p0 p1) >>= fun v_1 =>
  (M.f101 fuel p0.1 v_1) >>= fun v_3 =>
  (idx v_3 p2) >>= fun v_5 =>
  (idx v_5 p3) >>= fun v_7 =>
  some v_7

/-- waterhour/waterhourref08.Least -/
def f23 (fuel : Nat) (p0 : S_api_Market) (p1 : Int) (p2 : Int) (p3 : Int) : Option (Int × Bool × Int) :=
  (M.f72 fuel p0 ([] : List Int) p3 ([p1, p2] : List Int)) >>= fun v_1 =>
  (if (v_1 != 0) = true then (
  some (0, false, v_1))
  else (
  (loopM (ρ := Int) (fun s_3 : Int × Int =>
    (shl 1 (p0.2.2.length : Int)) >>= fun v_7 =>
    (if (decide (s_3.2 < v_7)) = true then (
    (M.f74 fuel p0 s_3.2) >>= fun v_9 =>
    (M.f81 fuel p0 v_9) >>= fun v_11 =>
    (if (decide (v_11 ≤ p3)) = true then (
    (M.f84 fuel p0 v_9 p1 p2) >>= fun v_15 =>
    some (imin s_3.1 v_15))
    else (
    some s_3.1)) >>= fun y_14 =>
    some (.again (y_14, (wr (s_3.2 + 1)))))
    else (
    some (.leave s_3.1)))) fuel ((1099511627776, 0) : Int × Int)) >>= fun o_4 =>
  (fun p_17 =>
    (if (decide (1099511627776 ≤ p_17)) = true then (
    some (0, false, 0))
    else (
    some (p_17, true, 0)))) o_4))

/-- waterhour/waterhourlaw08.KeeperPrices -/
def f3 (fuel : Nat) (p0 : S_api_Market) (p1 : Int) (p2 : Int) (p3 : Int) (p4 : Int) (p5 : Int) : Option Bool :=
  (M.f16 fuel ) >>= fun v_1 =>
  (if (!v_1) = true then (
  some false)
  else (
  (M.f17 p0) >>= fun v_3 =>
  (if (!v_3) = true then (
  some true)
  else (
  (M.f18 p0 p1 p2 p3) >>= fun v_5 =>
  (M.f19 fuel p0 p1 p2 p3) >>= fun v_7 =>
  (M.f20 p0 p1 p2 p3 p4) >>= fun v_9 =>
  (M.f21 fuel p0 p1 p2 p3 p4) >>= fun v_11 =>
  (M.f22 p0 p1 p2 p5) >>= fun v_13 =>
  (M.f23 fuel p0 p1 p2 p5) >>= fun v_15 =>
  (M.f24 v_5.1 v_7.1) >>= fun v_17 =>
  some (((((((v_17 && (v_5.2 == v_7.2)) && (v_9.1 == v_11.1)) && (v_9.2.1 == v_11.2.1)) && (v_9.2.2 == v_11.2.2)) && (v_13.1 == v_15.1)) && (v_13.2.1 == v_15.2.1)) && (v_13.2.2 == v_15.2.2))))))

end Go.Proofs.Ytkbilbeaedocjaa.M
