/-
  Models of Go functions, written by program; nothing is claimed here.
-/
import Derived.Test.YthogdhepjcomjaaGreatDoorModelP
namespace Go.Proofs.YthogdhepjcomjaaGreatDoor.M
open Go Go.Proofs.YthogdhepjcomjaaGreatDoor Go.Proofs.YthogdhepjcomjaaGreatDoor.Wh

/-- waterhour/waterhourlaw07.lesser -/
def f60 (p0 : List (List Int)) (p1 : List (List Int)) : Option Bool :=
  (forM (ρ := Bool) 0 (p0.length : Int) (() : Unit) fun i_1 _s_3 =>
    (idx p0 i_1) >>= fun v_7 =>
    (forM (ρ := Bool) 0 (v_7.length : Int) (() : Unit) fun i_9 _s_11 =>
      (idx p0 i_1) >>= fun v_15 =>
      (idx v_15 i_9) >>= fun v_17 =>
      (idx p1 i_1) >>= fun v_19 =>
      (idx v_19 i_9) >>= fun v_21 =>
      (if (decide (v_21 < v_17)) = true then (
      some (.leave false))
      else (
      some (.again ())))) >>= fun o_12 => Out.elim o_12 (fun _s_11 =>
      some (.again ())) (fun p_23 =>
      some (.leave p_23))) >>= fun o_4 => Out.elim o_4 (fun _s_3 =>
    some true) (fun p_24 =>
    some p_24)

/-- waterhour/waterhourlaw07.widened -/
def f62 (p0 : S_api_Roster) (p1 : Int) : Option S_api_Roster :=
  (forS 0 (p0.2.2.2.1.length : Int) (([] : List (List Int)) : (List (List Int))) fun i_4 s_6 =>
    (idx p0.2.2.2.1 i_4) >>= fun v_11 =>
    (M.f45 v_11) >>= fun m_13 =>
    (forS 0 (m_13.length : Int) (m_13 : (List Int)) fun i_17 s_19 =>
      (if (i_4 != i_17) = true then (
      (idx s_19 i_17) >>= fun v_25 =>
      (idx s_19 i_17) >>= fun _v_27 =>
      (set1 s_19 i_17 (wr (v_25 + p1))) >>= fun z_29 =>
      some z_29)
      else (
      some s_19)) >>= fun y_24 =>
      some y_24) >>= fun s_19 =>
    (app s_6 ([s_19] : List (List Int))) >>= fun z_31 =>
    some z_31) >>= fun s_6 =>
  some ((p0.1, p0.2.1, p0.2.2.1, s_6, p0.2.2.2.2) : S_api_Roster)

/-- waterhour/waterhourlaw07.WatchExact -/
def f12 (fuel : Nat) (p0 : S_api_Roster) (p1 : Int) (p2 : List Int) (p3 : List (List Int)) (p4 : S_api_Turn) : Option Bool :=
  (M.f16 fuel ) >>= fun v_1 =>
  (if (!v_1) = true then (
  some false)
  else (
  (M.f33 fuel p0) >>= fun v_3 =>
  (guardO (!(!v_3)) (M.f17 p0 ([p2] : List (List Int)))) >>= fun v_5 =>
  (if ((((!v_3) || (!v_5)) || (decide (p1 < 0))) || (decide (p0.1 ≤ p1))) = true then (
  some true)
  else (
  (M.f34 fuel p0 p1) >>= fun v_7 =>
  (if (v_7.2.2 != 0) = true then (
  some false)
  else (
  (M.f35 fuel p0 p1 p2) >>= fun v_9 =>
  (if (v_9 != 0) = true then (
  some v_7.1)
  else (
  some p2)) >>= fun y_12 =>
  (M.f33 fuel ((p0.1, p0.2.1, p0.2.2.1, p3, p0.2.2.2.2) : S_api_Roster)) >>= fun v_14 =>
  (guardO (v_14 && ((p3.length : Int) == (p0.2.2.2.1.length : Int))) (M.f60 p3 p0.2.2.2.1)) >>= fun v_16 =>
  (if ((v_14 && ((p3.length : Int) == (p0.2.2.2.1.length : Int))) && v_16) = true then (
  (guardO (v_7.2.1 && (decide (0 < (y_12.length : Int)))) (M.f35 fuel ((p0.1, p0.2.1, p0.2.2.1, p3, p0.2.2.2.2) : S_api_Roster) p1 y_12)) >>= fun v_18 =>
  (if ((v_7.2.1 && (decide (0 < (y_12.length : Int)))) && (v_18 != 0)) = true then (
  some false)
  else (
  (M.f29 fuel p0 p1 y_12) >>= fun v_20 =>
  (M.f29 fuel ((p0.1, p0.2.1, p0.2.2.1, p3, p0.2.2.2.2) : S_api_Roster) p1 y_12) >>= fun v_22 =>
  (if ((v_20.2.2 != v_22.2.2) || (((v_20.2.2 == 0) && (!v_20.2.1)) && v_22.2.1)) = true then (
  some false)
  else (
  (if (!(v_7.2.1 && (decide (0 < (y_12.length : Int))))) = true then (
  some true)
  else (
  (M.f61 p0.2.2.2.2) >>= fun m_25 =>
  (app m_25 ([p4] : List S_api_Turn)) >>= fun z_30 =>
  (M.f33 fuel ((p0.1, p0.2.1, p0.2.2.1, p0.2.2.2.1, z_30) : S_api_Roster)) >>= fun v_34 =>
  (if v_34 = true then (
  (M.f53 p0 v_7.1) >>= fun v_36 =>
  (M.f34 fuel ((p0.1, p0.2.1, p0.2.2.1, p0.2.2.2.1, z_30) : S_api_Roster) p1) >>= fun v_38 =>
  (M.f53 ((p0.1, p0.2.1, p0.2.2.1, p0.2.2.2.1, z_30) : S_api_Roster) v_38.1) >>= fun v_40 =>
  (if (((((v_36.2 != 0) || (v_38.2.2 != 0)) || (v_40.2 != 0)) || (!v_38.2.1)) || (decide (v_36.1 < v_40.1))) = true then (
  some false)
  else (
  (M.f57 fuel p0 p1 y_12) >>= fun v_42 =>
  (if (((v_42.2 != 0) || (decide (v_42.1 < 0))) || (decide (1048576 < v_42.1))) = true then (
  some false)
  else (
  (M.f62 p0 v_42.1) >>= fun v_44 =>
  (M.f33 fuel v_44) >>= fun v_46 =>
  (guardO v_46 (M.f35 fuel v_44 p1 y_12)) >>= fun v_48 =>
  (if (v_46 && (v_48 != 0)) = true then (
  some false)
  else (
  (M.f62 p0 (wr (v_42.1 + 1))) >>= fun v_50 =>
  (guardO (!(v_42.1 == 1048576)) (M.f33 fuel v_50)) >>= fun v_52 =>
  (guardO (!((v_42.1 == 1048576) || (!v_52))) (M.f35 fuel v_50 p1 y_12)) >>= fun v_54 =>
  some (((v_42.1 == 1048576) || (!v_52)) || (v_54 == 71)))))))))
  else (
  (M.f57 fuel p0 p1 y_12) >>= fun v_56 =>
  (if (((v_56.2 != 0) || (decide (v_56.1 < 0))) || (decide (1048576 < v_56.1))) = true then (
  some false)
  else (
  (M.f62 p0 v_56.1) >>= fun v_58 =>
  (M.f33 fuel v_58) >>= fun v_60 =>
  (guardO v_60 (M.f35 fuel v_58 p1 y_12)) >>= fun v_62 =>
  (if (v_60 && (v_62 != 0)) = true then (
  some false)
  else (
  (M.f62 p0 (wr (v_56.1 + 1))) >>= fun v_64 =>
  (guardO (!(v_56.1 == 1048576)) (M.f33 fuel v_64)) >>= fun v_66 =>
  (guardO (!((v_56.1 == 1048576) || (!v_66))) (M.f35 fuel v_64 p1 y_12)) >>= fun v_68 =>
  some (((v_56.1 == 1048576) || (!v_66)) || (v_68 == 71)))))))))))))))
  else (
  (if (!(v_7.2.1 && (decide (0 < (y_12.length : Int))))) = true then (
  some true)
  else (
  (M.f61 p0.2.2.2.2) >>= fun m_71 =>
  (app m_71 ([p4] : List S_api_Turn)) >>= fun z_76 =>
  (M.f33 fuel ((p0.1, p0.2.1, p0.2.2.1, p0.2.2.2.1, z_76) : S_api_Roster)) >>= fun v_80 =>
  (if v_80 = true then (
  (M.f53 p0 v_7.1) >>= fun v_82 =>
  (M.f34 fuel ((p0.1, p0.2.1, p0.2.2.1, p0.2.2.2.1, z_76) : S_api_Roster) p1) >>= fun v_84 =>
  (M.f53 ((p0.1, p0.2.1, p0.2.2.1, p0.2.2.2.1, z_76) : S_api_Roster) v_84.1) >>= fun v_86 =>
  (if (((((v_82.2 != 0) || (v_84.2.2 != 0)) || (v_86.2 != 0)) || (!v_84.2.1)) || (decide (v_82.1 < v_86.1))) = true then (
  some false)
  else (
  (M.f57 fuel p0 p1 y_12) >>= fun v_88 =>
  (if (((v_88.2 != 0) || (decide (v_88.1 < 0))) || (decide (1048576 < v_88.1))) = true then (
  some false)
  else (
  (M.f62 p0 v_88.1) >>= fun v_90 =>
  (M.f33 fuel v_90) >>= fun v_92 =>
  (guardO v_92 (M.f35 fuel v_90 p1 y_12)) >>= fun v_94 =>
  (if (v_92 && (v_94 != 0)) = true then (
  some false)
  else (
  (M.f62 p0 (wr (v_88.1 + 1))) >>= fun v_96 =>
  (guardO (!(v_88.1 == 1048576)) (M.f33 fuel v_96)) >>= fun v_98 =>
  (guardO (!((v_88.1 == 1048576) || (!v_98))) (M.f35 fuel v_96 p1 y_12)) >>= fun v_100 =>
  some (((v_88.1 == 1048576) || (!v_98)) || (v_100 == 71)))))))))
  else (
  (M.f57 fuel p0 p1 y_12) >>= fun v_102 =>
  (if (((v_102.2 != 0) || (decide (v_102.1 < 0))) || (decide (1048576 < v_102.1))) = true then (
  some false)
  else (
  (M.f62 p0 v_102.1) >>= fun v_104 =>
  (M.f33 fuel v_104) >>= fun v_106 =>
  (guardO v_106 (M.f35 fuel v_104 p1 y_12)) >>= fun v_108 =>
  (if (v_106 && (v_108 != 0)) = true then (
  some false)
  else (
  (M.f62 p0 (wr (v_102.1 + 1))) >>= fun v_110 =>
  (guardO (!(v_102.1 == 1048576)) (M.f33 fuel v_110)) >>= fun v_112 =>
  (guardO (!((v_102.1 == 1048576) || (!v_112))) (M.f35 fuel v_110 p1 y_12)) >>= fun v_114 =>
  some (((v_102.1 == 1048576) || (!v_112)) || (v_114 == 71))))))))))))))))))

end Go.Proofs.YthogdhepjcomjaaGreatDoor.M
