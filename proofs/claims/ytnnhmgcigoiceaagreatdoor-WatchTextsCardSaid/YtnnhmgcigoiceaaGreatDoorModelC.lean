/-
  Models of Go functions, written by program; nothing is claimed here.
-/
import Derived.Test.YtnnhmgcigoiceaaGreatDoorModelB
namespace Go.Proofs.YtnnhmgcigoiceaaGreatDoor.M
open Go Go.Proofs.YtnnhmgcigoiceaaGreatDoor Go.Proofs.YtnnhmgcigoiceaaGreatDoor.Wh

/-- waterhour/watch.gated -/
def f40 (p0 : S_api_Roster) (p1 : Int) : Option Int :=
  (M.f25 p0) >>= fun v_1 =>
  (if (v_1 != 0) = true then (
  some v_1)
  else (
  (M.f54 p1 0 (wr (p0.1 - 1))) >>= fun v_3 =>
  (if (!v_3) = true then (
  some 1)
  else (
  some 0))))

/-- waterhour/watch.cost -/
def f45 (p0 : S_api_Roster) (p1 : List Int) : Option Int :=
  (forS 0 (p1.length : Int) (0 : Int) fun i_1 s_3 =>
    (idx p1 i_1) >>= fun v_7 =>
    (idx p0.2.2.2.2 v_7) >>= fun v_9 =>
    some (wr (s_3 + v_9.2.2.2.2.2))) >>= fun s_3 =>
  some s_3

/-- cmp.isNaN[int] -/
def f111 (p0 : Int) : Option Bool :=
  some (p0 != p0)

/-- cmp.Compare[int] -/
def f83 (p0 : Int) (p1 : Int) : Option Int :=
  (M.f111 p0) >>= fun v_1 =>
  (M.f111 p1) >>= fun v_3 =>
  (if v_1 = true then (
  (if v_3 = true then (
  some 0)
  else (
  some (-1))))
  else (
  (if v_3 = true then (
  some 1)
  else (
  (if (decide (p0 < p1)) = true then (
  some (-1))
  else (
  (if (decide (p1 < p0)) = true then (
  some 1)
  else (
  some 0))))))))

/-- slices.Compare[[]int,int] -/
def f84 (p0 : List Int) (p1 : List Int) : Option Int :=
  (forM (ρ := Int) 0 (p0.length : Int) (() : Unit) fun i_1 s_3 =>
    (idx p0 i_1) >>= fun v_7 =>
    (if (decide ((p1.length : Int) ≤ i_1)) = true then (
    some (.leave 1))
    else (
    (idx p1 i_1) >>= fun v_9 =>
    (M.f83 v_7 v_9) >>= fun v_11 =>
    (if (v_11 != 0) = true then (
    some (.leave v_11))
    else (
    some (.again ())))))) >>= fun o_4 => Out.elim o_4 (fun s_3 =>
    (if (decide ((p0.length : Int) < (p1.length : Int))) = true then (
    some (-1))
    else (
    some 0))) (fun p_13 =>
    some p_13)

/-- cmp.Or[int] -/
def f82 (p0 : List Int) : Option Int :=
  (forM (ρ := Int) 0 (p0.length : Int) (() : Unit) fun i_1 s_3 =>
    (idx p0 i_1) >>= fun v_7 =>
    (if (v_7 != 0) = true then (
    some (.leave v_7))
    else (
    some (.again ())))) >>= fun o_4 => Out.elim o_4 (fun s_3 =>
    some 0) (fun p_9 =>
    some p_9)

/-- waterhour/watch.by$1 -/
def f81 (p0 : List Int) (p1 : List Int) (c0 : S_api_Roster) : Option Int :=
  (M.f45 c0 p0) >>= fun v_1 =>
  (M.f45 c0 p1) >>= fun v_3 =>
  (M.f83 v_1 v_3) >>= fun v_5 =>
  (M.f83 (p0.length : Int) (p1.length : Int)) >>= fun v_7 =>
  (M.f84 p0 p1) >>= fun v_9 =>
  (M.f82 ([v_5, v_7, v_9] : List Int)) >>= fun v_11 =>
  some v_11

/-- waterhour/watch.by -/
def f42 (p0 : S_api_Roster) : Option ((List Int) → (List Int) → Option Int) :=
  some ((fun x0 x1 => M.f81 x0 x1 p0) : ((List Int) → (List Int) → Option Int))

/-- waterhour/watch.ways$1 -/
def f86 (p0 : Int) (p1 : List Int) (c0 : List (NL Int)) (c1 : ((List Int) → (List Int) → Option Int)) : Option (Bool × (List (NL Int))) :=
  (idx c0 p0) >>= fun v_1 =>
  (guardO (!v_1.l.isEmpty) (idx c0 p0)) >>= fun v_3 =>
  (guardO (!v_1.l.isEmpty) (c1 v_3.l p1)) >>= fun v_5 =>
  (if ((!v_1.l.isEmpty) && (decide (v_5 ≤ 0))) = true then (
  some (false, c0))
  else (
  (idx c0 p0) >>= fun v_7 =>
  (nlO p1) >>= fun m_11 =>
  (set1 c0 p0 m_11) >>= fun z_9 =>
  some (true, z_9)))

/-- waterhour/watch.own -/
def f62 (p0 : S_api_Roster) (p1 : Int) (p2 : (Int → Option Bool)) : Option (List Int) :=
  (forS 0 (p0.2.2.2.2.length : Int) (([] : List Int) : (List Int)) fun i_1 s_3 =>
    (idx p0.2.2.2.2 i_1) >>= fun v_8 =>
    (guardO (v_8.1 == p1) (p2 i_1)) >>= fun v_11 =>
    (if ((v_8.1 == p1) && v_11) = true then (
    (app s_3 ([i_1] : List Int)) >>= fun z_16 =>
    some z_16)
    else (
    some s_3)) >>= fun y_14 =>
    some y_14) >>= fun s_3 =>
  some s_3

/-- waterhour/watch.ways$2 -/
def f87 (p0 : Int) : Option Bool :=
  some true

/-- slices.Index[[]int,int] -/
def f99 (p0 : List Int) (p1 : Int) : Option Int :=
  (forM (ρ := Int) 0 (p0.length : Int) (() : Unit) fun i_1 s_3 =>
    (idx p0 i_1) >>= fun v_7 =>
    (if (p1 == v_7) = true then (
    some (.leave i_1))
    else (
    some (.again ())))) >>= fun o_4 => Out.elim o_4 (fun s_3 =>
    some (-1)) (fun p_9 =>
    some p_9)

/-- slices.Contains[[]int,int] -/
def f61 (p0 : List Int) (p1 : Int) : Option Bool :=
  (M.f99 p0 p1) >>= fun v_1 =>
  some (decide (0 ≤ v_1))

/-- waterhour/watch.ways -/
def f44 (fuel : Nat) (p0 : S_api_Roster) (p1 : Int) (p2 : ((List Int) → (List Int) → Option Int)) : Option (List (NL Int)) :=
  (mk (p0.2.2.2.2.length : Int) (⟨[]⟩ : NL Int)) >>= fun q_1 =>
  (M.f62 p0 p1 (fun x0 => M.f87 x0)) >>= fun v_5 =>
  (forS 0 (v_5.length : Int) (q_1 : (List (NL Int))) fun i_7 s_9 =>
    (idx v_5 i_7) >>= fun v_14 =>
    (M.f33 p0 v_14) >>= fun v_16 =>
    (M.f34 v_16) >>= fun v_18 =>
    (if v_18 = true then (
    (M.f86 v_14 ([v_14] : List Int) s_9 p2) >>= fun z_23 =>
    some z_23.2)
    else (
    some s_9)) >>= fun y_21 =>
    some y_21) >>= fun s_9 =>
  (loopM (ρ := (List (NL Int))) (fun s_26 : Bool × (List (NL Int)) =>
    (if s_26.1 = true then (
    (forS 0 (v_5.length : Int) ((false, s_26.2) : Bool × (List (NL Int))) fun i_31 s_33 =>
      (idx v_5 i_31) >>= fun v_38 =>
      (forS 0 (v_5.length : Int) ((s_33.1, s_33.2) : Bool × (List (NL Int))) fun i_40 s_42 =>
        (idx v_5 i_40) >>= fun v_47 =>
        (idx s_42.2 v_38) >>= fun v_49 =>
        (guardO (!v_49.l.isEmpty) (M.f35 p0 v_38 v_47)) >>= fun v_51 =>
        (guardO ((!v_49.l.isEmpty) && v_51) (M.f61 v_49.l v_47)) >>= fun v_53 =>
        (guardO (((!v_49.l.isEmpty) && v_51) && (!v_53)) (fullB v_49.l (v_49.l.length : Int) (v_49.l.length : Int))) >>= fun z_55 =>
        (guardO (((!v_49.l.isEmpty) && v_51) && (!v_53)) (appF z_55 ([v_47] : List Int))) >>= fun z_57 =>
        ((if (((!v_49.l.isEmpty) && v_51) && (!v_53)) = true then M.f86 v_47 z_57 s_42.2 p2 else some (default, s_42.2))) >>= fun z_59 =>
        (if ((((!v_49.l.isEmpty) && v_51) && (!v_53)) && z_59.1) = true then (
        some true)
        else (
        some s_42.1)) >>= fun y_63 =>
        some (y_63, z_59.2)) >>= fun s_42 =>
      some (s_42.1, s_42.2)) >>= fun s_33 =>
    some (.again (s_33.1, s_33.2)))
    else (
    some (.leave s_26.2)))) fuel ((true, s_9) : Bool × (List (NL Int)))) >>= fun o_27 =>
  (fun p_64 =>
    some p_64) o_27

/-- waterhour/watch.plan -/
def f41 (fuel : Nat) (p0 : S_api_Roster) (p1 : Int) (p2 : ((List Int) → (List Int) → Option Int)) : Option ((List Int) × Bool) :=
  (M.f44 fuel p0 p1 p2) >>= fun v_1 =>
  (forS 0 (v_1.length : Int) ((⟨[]⟩ : NL Int) : (NL Int)) fun i_3 s_5 =>
    (idx v_1 i_3) >>= fun v_9 =>
    (guardO (!v_9.l.isEmpty) (M.f36 p0 i_3)) >>= fun v_11 =>
    (guardO (!v_9.l.isEmpty) (M.f34 v_11)) >>= fun v_13 =>
    (guardO (((!v_9.l.isEmpty) && v_13) && (!(s_5.l.isEmpty))) (p2 v_9.l s_5.l)) >>= fun v_15 =>
    (if (((!v_9.l.isEmpty) && v_13) && ((s_5.l.isEmpty) || (decide (v_15 < 0)))) = true then (
    some v_9)
    else (
    some s_5)) >>= fun y_18 =>
    some y_18) >>= fun s_5 =>
  some (s_5.l, (!s_5.l.isEmpty))

/-- waterhour/watch.short$1 -/
def f85 (p0 : List Int) (p1 : List Int) (c0 : ((List Int) → (List Int) → Option Int)) : Option Int :=
  (M.f83 (p0.length : Int) (p1.length : Int)) >>= fun v_1 =>
  (c0 p0 p1) >>= fun v_3 =>
  (M.f82 ([v_1, v_3] : List Int)) >>= fun v_5 =>
  some v_5

/-- waterhour/watch.short -/
def f43 (p0 : S_api_Roster) : Option ((List Int) → (List Int) → Option Int) :=
  (M.f42 p0) >>= fun v_1 =>
  some ((fun x0 x1 => M.f85 x0 x1 v_1) : ((List Int) → (List Int) → Option Int))

/-- waterhour/watch.Prices -/
def f16 (fuel : Nat) (p0 : S_api_Roster) (p1 : Int) : Option ((List Int) × Int) :=
  (M.f40 p0 p1) >>= fun v_1 =>
  (if (v_1 != 0) = true then (
  some (([] : List Int), v_1))
  else (
  (M.f42 p0) >>= fun v_3 =>
  (M.f41 fuel p0 p1 v_3) >>= fun v_5 =>
  (if (!v_5.2) = true then (
  some (([] : List Int), 4))
  else (
  (mk (p0.2.2.2.2.length : Int) (0 : Int)) >>= fun q_7 =>
  (M.f42 p0) >>= fun v_10 =>
  (M.f44 fuel p0 p1 v_10) >>= fun v_12 =>
  (forS 0 (v_12.length : Int) (q_7 : (List Int)) fun i_14 s_16 =>
    (idx v_12 i_14) >>= fun v_20 =>
    (idx p0.2.2.2.2 i_14) >>= fun v_22 =>
    (if (v_22.1 != p1) = true then (
    some s_16)
    else (
    (M.f45 p0 v_5.1) >>= fun v_24 =>
    (idx s_16 i_14) >>= fun v_26 =>
    (set1 s_16 i_14 v_24) >>= fun z_28 =>
    (if (!v_20.l.isEmpty) = true then (
    (idx z_28 i_14) >>= fun v_32 =>
    (M.f45 p0 v_20.l) >>= fun v_34 =>
    (idx z_28 i_14) >>= fun v_36 =>
    (set1 z_28 i_14 (imin v_32 v_34)) >>= fun z_38 =>
    some z_38)
    else (
    some z_28)) >>= fun y_31 =>
    some y_31))) >>= fun s_16 =>
  some (s_16, 0)))))

end Go.Proofs.YtnnhmgcigoiceaaGreatDoor.M
