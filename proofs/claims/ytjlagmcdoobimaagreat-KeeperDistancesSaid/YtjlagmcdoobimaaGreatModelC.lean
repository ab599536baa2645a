/-
  Models of Go functions, written by program; nothing is claimed here.
-/
import Derived.Test.YtjlagmcdoobimaaGreatModelK0
namespace Go.Proofs.YtjlagmcdoobimaaGreat.M
open Go Go.Proofs.YtjlagmcdoobimaaGreat Go.Proofs.YtjlagmcdoobimaaGreat.Wh

/-- waterhour/keeper.Widths -/
def f6 (p0 : S_api_Market) (p1 : List Int) : Option ((List (List Int)) × Int) :=
  (M.f32 p0 p1 (([], []) : S_keeper_numbers)) >>= fun v_1 =>
  (if (v_1 != 0) = true then (
  some (([] : List (List Int)), v_1))
  else (
  (M.f34 p1) >>= fun v_3 =>
  (M.f33 p0 v_3) >>= fun v_5 =>
  (forS 0 p0.1 (([] : List (List Int)) : (List (List Int))) fun i_7 s_9 =>
    (forS 0 p0.1 (([] : List Int) : (List Int)) fun i_14 s_16 =>
      (idx v_5 i_7) >>= fun v_21 =>
      (idx v_21 i_14) >>= fun v_23 =>
      (if (decide (1099511627776 ≤ v_23)) = true then (
      (app s_16 ([(-1)] : List Int)) >>= fun z_28 =>
      some z_28)
      else (
      (idx v_5 i_7) >>= fun v_31 =>
      (idx v_31 i_14) >>= fun v_33 =>
      (app s_16 ([v_33] : List Int)) >>= fun z_35 =>
      some z_35)) >>= fun y_26 =>
      some y_26) >>= fun s_16 =>
    (app s_9 ([s_16] : List (List Int))) >>= fun z_38 =>
    some z_38) >>= fun s_9 =>
  some (s_9, 0)))

/-- waterhour/waterhourlaw08.KeeperDistances$1 -/
def f8 (p0 : List Int) (c0 : S_api_Market) : Option Bool :=
  some ((p0.length : Int) != c0.1)

/-- slices.Index[[]int,int] -/
def f36 (p0 : List Int) (p1 : Int) : Option Int :=
  (forM (ρ := Int) 0 (p0.length : Int) (() : Unit) fun i_1 _s_3 =>
    (idx p0 i_1) >>= fun v_7 =>
    (if (p1 == v_7) = true then (
    some (.leave i_1))
    else (
    some (.again ())))) >>= fun o_4 => Out.elim o_4 (fun _s_3 =>
    some (-1)) (fun p_9 =>
    some p_9)

/-- slices.Contains[[]int,int] -/
def f10 (p0 : List Int) (p1 : Int) : Option Bool :=
  (M.f36 p0 p1) >>= fun v_1 =>
  some (decide (0 ≤ v_1))

/-- waterhour/waterhourlaw08.KeeperDistances -/
def f3 (fuel : Nat) (p0 : S_api_Market) (p1 : List Int) (p2 : Int) (p3 : Int) (p4 : Int) (p5 : Int) : Option Bool :=
  (M.f4 fuel ) >>= fun v_1 =>
  (if (!v_1) = true then (
  some false)
  else (
  (M.f5 fuel p0 p1 ([p2, p3, p4] : List Int)) >>= fun v_3 =>
  (if (!v_3) = true then (
  some true)
  else (
  (M.f6 p0 p1) >>= fun v_5 =>
  (guardO (!((v_5.2 != 0) || ((v_5.1.length : Int) != p0.1))) (M.f7 v_5.1 ((fun x0 => M.f8 x0 p0) : ((List Int) → Option Bool)))) >>= fun v_7 =>
  (if (((v_5.2 != 0) || ((v_5.1.length : Int) != p0.1)) || v_7) = true then (
  some false)
  else (
  (M.f9 p0 p1 p2 p3) >>= fun v_9 =>
  (guardO (!(v_9.2.2 != 0)) (idx v_5.1 p2)) >>= fun v_11 =>
  (guardO (!(v_9.2.2 != 0)) (idx v_11 p3)) >>= fun v_13 =>
  (guardO ((!((v_9.2.2 != 0) || (v_9.2.1 != (decide (0 ≤ v_13))))) && v_9.2.1) (idx v_5.1 p2)) >>= fun v_15 =>
  (guardO ((!((v_9.2.2 != 0) || (v_9.2.1 != (decide (0 ≤ v_13))))) && v_9.2.1) (idx v_15 p3)) >>= fun v_17 =>
  (guardO (!(((v_9.2.2 != 0) || (v_9.2.1 != (decide (0 ≤ v_13)))) || (v_9.2.1 && (v_9.1 != v_17)))) (idx v_5.1 p2)) >>= fun v_19 =>
  (guardO (!(((v_9.2.2 != 0) || (v_9.2.1 != (decide (0 ≤ v_13)))) || (v_9.2.1 && (v_9.1 != v_17)))) (idx v_19 p3)) >>= fun v_21 =>
  (guardO (!(((v_9.2.2 != 0) || (v_9.2.1 != (decide (0 ≤ v_13)))) || (v_9.2.1 && (v_9.1 != v_17)))) (idx v_5.1 p3)) >>= fun v_23 =>
  (guardO (!(((v_9.2.2 != 0) || (v_9.2.1 != (decide (0 ≤ v_13)))) || (v_9.2.1 && (v_9.1 != v_17)))) (idx v_23 p2)) >>= fun v_25 =>
  (guardO (!((((v_9.2.2 != 0) || (v_9.2.1 != (decide (0 ≤ v_13)))) || (v_9.2.1 && (v_9.1 != v_17))) || (v_21 != v_25))) (idx v_5.1 p2)) >>= fun v_27 =>
  (guardO (!((((v_9.2.2 != 0) || (v_9.2.1 != (decide (0 ≤ v_13)))) || (v_9.2.1 && (v_9.1 != v_17))) || (v_21 != v_25))) (idx v_27 p2)) >>= fun v_29 =>
  (guardO (!(((((v_9.2.2 != 0) || (v_9.2.1 != (decide (0 ≤ v_13)))) || (v_9.2.1 && (v_9.1 != v_17))) || (v_21 != v_25)) || (v_29 != 0))) (idx v_5.1 p2)) >>= fun v_31 =>
  (guardO (!(((((v_9.2.2 != 0) || (v_9.2.1 != (decide (0 ≤ v_13)))) || (v_9.2.1 && (v_9.1 != v_17))) || (v_21 != v_25)) || (v_29 != 0))) (idx v_31 p3)) >>= fun v_33 =>
  (guardO ((!(((((v_9.2.2 != 0) || (v_9.2.1 != (decide (0 ≤ v_13)))) || (v_9.2.1 && (v_9.1 != v_17))) || (v_21 != v_25)) || (v_29 != 0))) && (decide (0 ≤ v_33))) (idx v_5.1 p3)) >>= fun v_35 =>
  (guardO ((!(((((v_9.2.2 != 0) || (v_9.2.1 != (decide (0 ≤ v_13)))) || (v_9.2.1 && (v_9.1 != v_17))) || (v_21 != v_25)) || (v_29 != 0))) && (decide (0 ≤ v_33))) (idx v_35 p4)) >>= fun v_37 =>
  (guardO ((!(((((v_9.2.2 != 0) || (v_9.2.1 != (decide (0 ≤ v_13)))) || (v_9.2.1 && (v_9.1 != v_17))) || (v_21 != v_25)) || (v_29 != 0))) && ((decide (0 ≤ v_33)) && (decide (0 ≤ v_37)))) (idx v_5.1 p2)) >>= fun v_39 =>
  (guardO ((!(((((v_9.2.2 != 0) || (v_9.2.1 != (decide (0 ≤ v_13)))) || (v_9.2.1 && (v_9.1 != v_17))) || (v_21 != v_25)) || (v_29 != 0))) && ((decide (0 ≤ v_33)) && (decide (0 ≤ v_37)))) (idx v_39 p4)) >>= fun v_41 =>
  (guardO (((!(((((v_9.2.2 != 0) || (v_9.2.1 != (decide (0 ≤ v_13)))) || (v_9.2.1 && (v_9.1 != v_17))) || (v_21 != v_25)) || (v_29 != 0))) && ((decide (0 ≤ v_33)) && (decide (0 ≤ v_37)))) && (!(decide (v_41 < 0)))) (idx v_5.1 p2)) >>= fun v_43 =>
  (guardO (((!(((((v_9.2.2 != 0) || (v_9.2.1 != (decide (0 ≤ v_13)))) || (v_9.2.1 && (v_9.1 != v_17))) || (v_21 != v_25)) || (v_29 != 0))) && ((decide (0 ≤ v_33)) && (decide (0 ≤ v_37)))) && (!(decide (v_41 < 0)))) (idx v_43 p4)) >>= fun v_45 =>
  (guardO (((!(((((v_9.2.2 != 0) || (v_9.2.1 != (decide (0 ≤ v_13)))) || (v_9.2.1 && (v_9.1 != v_17))) || (v_21 != v_25)) || (v_29 != 0))) && ((decide (0 ≤ v_33)) && (decide (0 ≤ v_37)))) && (!(decide (v_41 < 0)))) (idx v_5.1 p2)) >>= fun v_47 =>
  (guardO (((!(((((v_9.2.2 != 0) || (v_9.2.1 != (decide (0 ≤ v_13)))) || (v_9.2.1 && (v_9.1 != v_17))) || (v_21 != v_25)) || (v_29 != 0))) && ((decide (0 ≤ v_33)) && (decide (0 ≤ v_37)))) && (!(decide (v_41 < 0)))) (idx v_47 p3)) >>= fun v_49 =>
  (guardO (((!(((((v_9.2.2 != 0) || (v_9.2.1 != (decide (0 ≤ v_13)))) || (v_9.2.1 && (v_9.1 != v_17))) || (v_21 != v_25)) || (v_29 != 0))) && ((decide (0 ≤ v_33)) && (decide (0 ≤ v_37)))) && (!(decide (v_41 < 0)))) (idx v_5.1 p3)) >>= fun v_51 =>
  (guardO (((!(((((v_9.2.2 != 0) || (v_9.2.1 != (decide (0 ≤ v_13)))) || (v_9.2.1 && (v_9.1 != v_17))) || (v_21 != v_25)) || (v_29 != 0))) && ((decide (0 ≤ v_33)) && (decide (0 ≤ v_37)))) && (!(decide (v_41 < 0)))) (idx v_51 p4)) >>= fun v_53 =>
  (if ((((((v_9.2.2 != 0) || (v_9.2.1 != (decide (0 ≤ v_13)))) || (v_9.2.1 && (v_9.1 != v_17))) || (v_21 != v_25)) || (v_29 != 0)) || (((decide (0 ≤ v_33)) && (decide (0 ≤ v_37))) && ((decide (v_41 < 0)) || (decide ((wr (v_49 + v_53)) < v_45))))) = true then (
  some false)
  else (
  (forM (ρ := Bool) 0 (p1.length : Int) (() : Unit) fun i_55 _s_57 =>
    (idx p1 i_55) >>= fun v_61 =>
    (idx p0.2.2 v_61) >>= fun v_63 =>
    (idx v_5.1 v_63.1) >>= fun v_65 =>
    (idx v_65 v_63.2.1) >>= fun v_67 =>
    (guardO (!(decide (v_67 < 0))) (idx v_5.1 v_63.1)) >>= fun v_69 =>
    (guardO (!(decide (v_67 < 0))) (idx v_69 v_63.2.1)) >>= fun v_71 =>
    (if ((decide (v_67 < 0)) || (decide (v_63.2.2.2 < v_71))) = true then (
    some (.leave false))
    else (
    some (.again ())))) >>= fun o_58 => Out.elim o_58 (fun _s_57 =>
    (guardO (!((decide (p5 < 0)) || (decide ((p0.2.2.length : Int) ≤ p5)))) (M.f10 p1 p5)) >>= fun v_73 =>
    (if (((decide (p5 < 0)) || (decide ((p0.2.2.length : Int) ≤ p5))) || v_73) = true then (
    some true)
    else (
    (M.f13 p1) >>= fun m_75 =>
    (app m_75 ([p5] : List Int)) >>= fun z_79 =>
    (M.f12 z_79) >>= fun v_82 =>
    (M.f11 v_82) >>= fun v_84 =>
    (M.f9 p0 v_84 p2 p3) >>= fun v_86 =>
    some ((v_86.2.2 == 0) && ((!v_9.2.1) || (v_86.2.1 && (decide (v_86.1 ≤ v_9.1)))))))) (fun p_88 =>
    some p_88)))))))))

end Go.Proofs.YtjlagmcdoobimaaGreat.M
