/-
  Models of Go functions, written by program; nothing is claimed here.
-/
import Derived.Test.YtnnhmgcigoiceaaGreatDoorModelC
namespace Go.Proofs.YtnnhmgcigoiceaaGreatDoor.M
open Go Go.Proofs.YtnnhmgcigoiceaaGreatDoor Go.Proofs.YtnnhmgcigoiceaaGreatDoor.Wh

/-- waterhour/watch.reached$1 -/
def f112 : Nat → Int → (List (Int × Bool)) → Int → S_api_Roster → Option (List (Int × Bool))
  | 0, _, _, _, _ => none
  | fuel + 1, p0, c0, c1, c2 =>
    (if ((mget c0 p0) || (p0 == c1)) = true then (
    some c0)
    else (
    (forS 0 (c2.2.2.2.2.length : Int) ((mset c0 p0 true) : (List (Int × Bool))) fun i_1 s_3 =>
      (M.f35 c2 p0 i_1) >>= fun v_7 =>
      (if v_7 = true then (
      (f112 fuel i_1 s_3 c1 c2) >>= fun z_11 =>
      some z_11)
      else (
      some s_3)) >>= fun y_10 =>
      some y_10) >>= fun s_3 =>
    some s_3))

/-- waterhour/watch.reached$2 -/
def f113 (p0 : Int) (c0 : S_api_Roster) : Option Bool :=
  (M.f33 c0 p0) >>= fun v_1 =>
  (M.f34 v_1) >>= fun v_3 =>
  some v_3

/-- waterhour/watch.reached$3 -/
def f114 (p0 : Int) (c0 : List (Int × Bool)) : Option Bool :=
  some (mget c0 p0)

/-- waterhour/watch.reached -/
def f88 (fuel : Nat) (p0 : S_api_Roster) (p1 : Int) (p2 : Int) : Option (List Int) :=
  (M.f62 p0 p1 ((fun x0 => M.f113 x0 p0) : (Int → Option Bool))) >>= fun v_3 =>
  (forS 0 (v_3.length : Int) (([] : List (Int × Bool)) : (List (Int × Bool))) fun i_5 s_7 =>
    (idx v_3 i_5) >>= fun v_11 =>
    (M.f112 fuel v_11 s_7 p2 p0) >>= fun z_13 =>
    some z_13) >>= fun s_7 =>
  (M.f62 p0 p1 (fun (a_ : Int) => M.f114 a_ s_7)) >>= fun z_16 =>
  some z_16

/-- waterhour/watch.late$1 -/
def f89 (p0 : Int) (c0 : S_api_Roster) : Option Bool :=
  (M.f36 c0 p0) >>= fun v_1 =>
  (M.f34 v_1) >>= fun v_3 =>
  some v_3

/-- waterhour/watch.late -/
def f47 (p0 : S_api_Roster) (p1 : List Int) : Option Bool :=
  (M.f55 p1 ((fun x0 => M.f89 x0 p0) : (Int → Option Bool))) >>= fun v_1 =>
  some v_1

/-- waterhour/watch.different -/
def f57 (p0 : List Int) : Option Bool :=
  (forM (ρ := Bool) 0 (p0.length : Int) (() : Unit) fun i_1 s_3 =>
    (idx p0 i_1) >>= fun v_7 =>
    (cut p0 i_1) >>= fun z_9 =>
    (M.f61 z_9 v_7) >>= fun v_11 =>
    (if v_11 = true then (
    some (.leave false))
    else (
    some (.again ())))) >>= fun o_4 => Out.elim o_4 (fun s_3 =>
    some true) (fun p_13 =>
    some p_13)

/-- waterhour/watch.bare$1 -/
def f90 (p0 : Int) (c0 : S_api_Roster) (c1 : Int) : Option Bool :=
  (idx c0.2.2.2.2 p0) >>= fun v_1 =>
  some (v_1.1 != c1)

/-- waterhour/watch.bare -/
def f48 (p0 : S_api_Roster) (p1 : Int) (p2 : List Int) : Option Int :=
  (M.f40 p0 p1) >>= fun v_1 =>
  (if (v_1 != 0) = true then (
  some v_1)
  else (
  (M.f32 p0 p2) >>= fun v_3 =>
  (guardO (!(v_3 != 0)) (M.f57 p2)) >>= fun v_5 =>
  (guardO (!((v_3 != 0) || (!v_5))) (M.f55 p2 ((fun x0 => M.f90 x0 p0 p1) : (Int → Option Bool)))) >>= fun v_7 =>
  (if (((v_3 != 0) || (!v_5)) || v_7) = true then (
  some 1)
  else (
  (if (decide (8 < (p2.length : Int))) = true then (
  some 2)
  else (
  some 0))))))

/-- waterhour/watch.isPlan$1 -/
def f94 (p0 : Int) (c0 : S_api_Roster) (c1 : Int) : Option Bool :=
  (idx c0.2.2.2.2 p0) >>= fun v_1 =>
  some (v_1.1 != c1)

/-- waterhour/watch.isPlan$2 -/
def f95 (p0 : S_watch_lag) (c0 : List S_watch_lag) : Option (List S_watch_lag) :=
  (app c0 ([p0] : List S_watch_lag)) >>= fun z_1 =>
  some z_1

/-- waterhour/watch.lags -/
def f52 {σ : Type} (fuel : Nat) (p0 : S_api_Roster) (p1 : List Int) (p2 : σ → S_watch_lag → Option σ) (s0 : σ) : Option σ :=
  (idx p1 0) >>= fun v_1 =>
  (M.f33 p0 v_1) >>= fun v_3 =>
  (p2 s0 v_3) >>= fun z_5 =>
  (loopM (ρ := σ) (fun s_8 : Int × σ =>
    (if (decide (s_8.1 < (p1.length : Int))) = true then (
    (idx p1 (wr (s_8.1 - 1))) >>= fun v_13 =>
    (idx p1 s_8.1) >>= fun v_15 =>
    (M.f79 p0 v_13 v_15) >>= fun v_17 =>
    (p2 s_8.2 v_17) >>= fun z_19 =>
    some (.again ((wr (s_8.1 + 1)), z_19)))
    else (
    some (.leave s_8.2)))) fuel ((1, z_5) : Int × σ)) >>= fun o_9 =>
  (fun p_29 =>
    (idx p1 (wr ((p1.length : Int) - 1))) >>= fun v_30 =>
    (M.f36 p0 v_30) >>= fun v_32 =>
    (p2 p_29 v_32) >>= fun z_34 =>
    some z_34) o_9

/-- waterhour/watch.every[waterhour/watch.lag]$1 -/
def f118 (p0 : S_watch_lag) (c0 : (S_watch_lag → Option Bool)) : Option Bool :=
  (c0 p0) >>= fun v_1 =>
  some (!v_1)

/-- slices.IndexFunc[[]waterhour/watch.lag,waterhour/watch.lag] -/
def f132 (p0 : List S_watch_lag) (p1 : (S_watch_lag → Option Bool)) : Option Int :=
  (forM (ρ := Int) 0 (p0.length : Int) (() : Unit) fun i_1 s_3 =>
    (idx p0 i_1) >>= fun v_7 =>
    (p1 v_7) >>= fun v_9 =>
    (if v_9 = true then (
    some (.leave i_1))
    else (
    some (.again ())))) >>= fun o_4 => Out.elim o_4 (fun s_3 =>
    some (-1)) (fun p_11 =>
    some p_11)

/-- slices.ContainsFunc[[]waterhour/watch.lag,waterhour/watch.lag] -/
def f117 (p0 : List S_watch_lag) (p1 : (S_watch_lag → Option Bool)) : Option Bool :=
  (M.f132 p0 p1) >>= fun v_1 =>
  some (decide (0 ≤ v_1))

/-- waterhour/watch.every[waterhour/watch.lag] -/
def f96 (p0 : List S_watch_lag) (p1 : (S_watch_lag → Option Bool)) : Option Bool :=
  (M.f117 p0 ((fun x0 => M.f118 x0 p1) : (S_watch_lag → Option Bool))) >>= fun v_1 =>
  some (!v_1)

/-- waterhour/watch.isPlan -/
def f51 (fuel : Nat) (p0 : S_api_Roster) (p1 : Int) (p2 : List Int) : Option Bool :=
  (guardO (!((p2.length : Int) == 0)) (M.f57 p2)) >>= fun v_1 =>
  (guardO (!(((p2.length : Int) == 0) || (!v_1))) (M.f32 p0 p2)) >>= fun v_3 =>
  (if ((((p2.length : Int) == 0) || (!v_1)) || (v_3 != 0)) = true then (
  some false)
  else (
  (M.f55 p2 ((fun x0 => M.f94 x0 p0 p1) : (Int → Option Bool))) >>= fun v_5 =>
  (if v_5 = true then (
  some false)
  else (
  (M.f52 fuel p0 p2 (fun (s_ : List S_watch_lag) (a_ : S_watch_lag) => M.f95 a_ s_) ([] : List S_watch_lag)) >>= fun z_8 =>
  (M.f96 (z_8 : List S_watch_lag) (fun x0 => M.f34 x0)) >>= fun v_11 =>
  some v_11))))

/-- waterhour/watch.Spare$1 -/
def f53 (p0 : S_watch_lag) (c0 : Int) : Option Int :=
  (if (!p0.2) = true then (
  some (imin c0 (wr (0 - p0.1))))
  else (
  some c0)) >>= fun y_2 =>
  some y_2

/-- waterhour/watch.Spare -/
def f19 (fuel : Nat) (p0 : S_api_Roster) (p1 : Int) (p2 : List Int) : Option (Int × Int) :=
  (M.f40 p0 p1) >>= fun v_1 =>
  (if (v_1 != 0) = true then (
  some (0, v_1))
  else (
  (M.f51 fuel p0 p1 p2) >>= fun v_3 =>
  (if (!v_3) = true then (
  some (0, 71))
  else (
  (M.f52 fuel p0 p2 (fun (s_ : Int) (a_ : S_watch_lag) => M.f53 a_ s_) (1048576 : Int)) >>= fun z_6 =>
  some (z_6, 0)))))

/-- waterhour/watch.CheckBare$1 -/
def f56 (p0 : Int) (c0 : S_api_Roster) (c1 : List Int) : Option Bool :=
  (idx c0.2.2.2.2 p0) >>= fun v_1 =>
  (M.f39 v_1 c1) >>= fun v_3 =>
  some v_3

/-- waterhour/watch.CheckBare -/
def f21 (p0 : S_api_Roster) (p1 : Int) (p2 : List Int) (p3 : List Int) : Option Int :=
  (M.f48 p0 p1 p2) >>= fun v_1 =>
  (if (v_1 != 0) = true then (
  some v_1)
  else (
  (M.f37 p0 p3) >>= fun v_3 =>
  (if (!v_3) = true then (
  some 1)
  else (
  (M.f38 p0 p3) >>= fun v_5 =>
  (guardO (!(!v_5)) (idx p3 0)) >>= fun v_7 =>
  (guardO (!(!v_5)) (M.f54 v_7 p0.2.1 (wr (p0.2.2.1 - 1)))) >>= fun v_9 =>
  (guardO (!((!v_5) || (!v_9))) (M.f55 p2 ((fun x0 => M.f56 x0 p0 p3) : (Int → Option Bool)))) >>= fun v_11 =>
  (if (((!v_5) || (!v_9)) || v_11) = true then (
  some 61)
  else (
  some 0))))))

/-- waterhour/watch.CheckPlan -/
def f22 (fuel : Nat) (p0 : S_api_Roster) (p1 : Int) (p2 : List Int) : Option Int :=
  (M.f40 p0 p1) >>= fun v_1 =>
  (if (v_1 != 0) = true then (
  some v_1)
  else (
  (M.f51 fuel p0 p1 p2) >>= fun v_3 =>
  (if (!v_3) = true then (
  some 71)
  else (
  some 0))))

/-- cmp.Less[int] -/
def f98 (p0 : Int) (p1 : Int) : Option Bool :=
  (M.f111 p0) >>= fun v_1 =>
  (guardO v_1 (M.f111 p1)) >>= fun v_3 =>
  some ((v_1 && (!v_3)) || (decide (p0 < p1)))

/-- slices.IsSorted[[]int,int] -/
def f58 (fuel : Nat) (p0 : List Int) : Option Bool :=
  (loopM (ρ := (Unit ⊕ Bool)) (fun s_1 : Int =>
    (if (decide (0 < s_1)) = true then (
    (idx p0 s_1) >>= fun v_5 =>
    (idx p0 (wr (s_1 - 1))) >>= fun v_7 =>
    (M.f98 v_5 v_7) >>= fun v_9 =>
    (if v_9 = true then (
    some (.leave (.inr false)))
    else (
    some (.again (wr (s_1 - 1))))))
    else (
    some (.leave (.inl ()))))) fuel ((wr ((p0.length : Int) - 1)) : Int)) >>= fun o_2 =>
  (fun x_ => sumE x_ (fun p_11 =>
    some true) (fun p_12 =>
    some p_12)) o_2

/-- waterhour/watch.CheckGap$1 -/
def f59 (p0 : Int) (c0 : S_api_Roster) (c1 : Int) : Option Bool :=
  (idx c0.2.2.2.2 p0) >>= fun v_1 =>
  some (v_1.1 != c1)

/-- waterhour/watch.CheckGap$2 -/
def f60 (p0 : Int) (c0 : List Int) : Option Bool :=
  (M.f61 c0 p0) >>= fun v_1 =>
  some v_1

/-- waterhour/watch.CheckGap$3$1 -/
def f64 (p0 : Int) (c0 : S_api_Roster) (c1 : Int) : Option Bool :=
  (M.f35 c0 p0 c1) >>= fun v_1 =>
  some v_1

/-- waterhour/watch.CheckGap$3 -/
def f63 (p0 : Int) (c0 : (Int → Option Bool)) (c1 : S_api_Roster) (c2 : List Int) : Option Bool :=
  (c0 p0) >>= fun v_1 =>
  (guardO (!v_1) (M.f33 c1 p0)) >>= fun v_3 =>
  (guardO (!v_1) (M.f34 v_3)) >>= fun v_5 =>
  (guardO ((!v_1) && (!v_5)) (M.f55 c2 ((fun x0 => M.f64 x0 c1 p0) : (Int → Option Bool)))) >>= fun v_7 =>
  some ((!v_1) && (v_5 || v_7))

/-- waterhour/watch.CheckGap -/
def f23 (fuel : Nat) (p0 : S_api_Roster) (p1 : Int) (p2 : List Int) : Option Int :=
  (M.f40 p0 p1) >>= fun v_1 =>
  (if (v_1 != 0) = true then (
  some v_1)
  else (
  (M.f32 p0 p2) >>= fun v_3 =>
  (guardO (!(v_3 != 0)) (M.f57 p2)) >>= fun v_5 =>
  (guardO (!((v_3 != 0) || (!v_5))) (M.f58 fuel p2)) >>= fun v_7 =>
  (guardO (!(((v_3 != 0) || (!v_5)) || (!v_7))) (M.f55 p2 ((fun x0 => M.f59 x0 p0 p1) : (Int → Option Bool)))) >>= fun v_9 =>
  (if ((((v_3 != 0) || (!v_5)) || (!v_7)) || v_9) = true then (
  some 1)
  else (
  (M.f62 p0 p1 ((fun x0 => M.f63 x0 ((fun x0 => M.f60 x0 p2) : (Int → Option Bool)) p0 p2) : (Int → Option Bool))) >>= fun v_11 =>
  (M.f47 p0 p2) >>= fun v_13 =>
  (if (v_13 || (decide (0 < (v_11.length : Int)))) = true then (
  some 32)
  else (
  some 0))))))

/-- waterhour/watch.CheckPrices$1 -/
def f65 (p0 : Int) : Option Bool :=
  (M.f54 p0 0 1048576) >>= fun v_1 =>
  some (!v_1)

/-- waterhour/watch.CheckPrices$2$1 -/
def f67 (p0 : Int) (c0 : S_api_Roster) (c1 : Int) (c2 : List Int) : Option Bool :=
  (M.f35 c0 p0 c1) >>= fun v_1 =>
  (guardO v_1 (idx c2 c1)) >>= fun v_3 =>
  (guardO v_1 (idx c2 p0)) >>= fun v_5 =>
  (guardO v_1 (idx c0.2.2.2.2 c1)) >>= fun v_7 =>
  some (v_1 && (decide ((wr (v_5 + v_7.2.2.2.2.2)) < v_3)))

/-- waterhour/watch.CheckPrices$2 -/
def f66 (p0 : Int) (c0 : S_api_Roster) (c1 : List Int) (c2 : Int) (c3 : Int) : Option Bool :=
  (M.f33 c0 p0) >>= fun v_1 =>
  (M.f34 v_1) >>= fun v_3 =>
  (guardO v_3 (idx c1 p0)) >>= fun v_5 =>
  (guardO v_3 (idx c0.2.2.2.2 p0)) >>= fun v_7 =>
  (guardO (!(v_3 && (decide (v_7.2.2.2.2.2 < v_5)))) (M.f36 c0 p0)) >>= fun v_9 =>
  (guardO (!(v_3 && (decide (v_7.2.2.2.2.2 < v_5)))) (M.f34 v_9)) >>= fun v_11 =>
  (guardO ((!(v_3 && (decide (v_7.2.2.2.2.2 < v_5)))) && v_11) (idx c1 p0)) >>= fun v_13 =>
  (guardO (!((v_3 && (decide (v_7.2.2.2.2.2 < v_5))) || (v_11 && (decide (v_13 < c2))))) (M.f62 c0 c3 ((fun x0 => M.f67 x0 c0 p0 c1) : (Int → Option Bool)))) >>= fun v_15 =>
  some (((v_3 && (decide (v_7.2.2.2.2.2 < v_5))) || (v_11 && (decide (v_13 < c2)))) || (decide (0 < (v_15.length : Int))))

/-- waterhour/watch.CheckPrices -/
def f24 (p0 : S_api_Roster) (p1 : Int) (p2 : Int) (p3 : List Int) : Option Int :=
  (M.f40 p0 p1) >>= fun v_1 =>
  (if (v_1 != 0) = true then (
  some v_1)
  else (
  (M.f54 p2 0 1048576) >>= fun v_3 =>
  (guardO (!((!v_3) || ((p3.length : Int) != (p0.2.2.2.2.length : Int)))) (M.f55 p3 (fun x0 => M.f65 x0))) >>= fun v_5 =>
  (if (((!v_3) || ((p3.length : Int) != (p0.2.2.2.2.length : Int))) || v_5) = true then (
  some 1)
  else (
  (M.f62 p0 p1 ((fun x0 => M.f66 x0 p0 p3 p2 p1) : (Int → Option Bool))) >>= fun v_7 =>
  (if (decide (0 < (v_7.length : Int))) = true then (
  some 32)
  else (
  some 0))))))

end Go.Proofs.YtnnhmgcigoiceaaGreatDoor.M
