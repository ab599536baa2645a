/-
  Models of Go functions, written by program; nothing is claimed here.
-/
import Derived.Test.YtnnhmgcigoiceaaGreatDoorModelD
namespace Go.Proofs.YtnnhmgcigoiceaaGreatDoor.M
open Go Go.Proofs.YtnnhmgcigoiceaaGreatDoor Go.Proofs.YtnnhmgcigoiceaaGreatDoor.Wh

/-- waterhour/waterhourref07.Right -/
def f29 (p0 : S_api_Turn) : Option Bool :=
  some ((((((((((((decide (0 ≤ p0.1)) && (decide (p0.1 < 8))) && (decide (0 ≤ p0.2.1))) && (decide (p0.2.1 < 8))) && (decide (0 ≤ p0.2.2.2.1))) && (decide (p0.2.2.2.1 < 8))) && (decide (0 ≤ p0.2.2.1))) && (decide (p0.2.2.1 ≤ 16777216))) && (decide (0 ≤ p0.2.2.2.2.1))) && (decide (p0.2.2.2.2.1 ≤ 16777216))) && (decide (0 ≤ p0.2.2.2.2.2))) && (decide (p0.2.2.2.2.2 ≤ 10000)))

/-- waterhour/waterhourlaw07.example -/
def f9 (p0 : Int) : Option S_api_Roster :=
  (cut ([((0, 1, 95, 0, 150, 4) : S_api_Turn), ((0, 0, 145, 1, 170, 3) : S_api_Turn), ((0, 1, 160, 1, 205, 2) : S_api_Turn), ((0, 0, 100, 0, 200, 11) : S_api_Turn)] : List S_api_Turn) p0) >>= fun z_2 =>
  some ((1, 100, 200, ([([0, 5] : List Int), ([3, 0] : List Int)] : List (List Int)), z_2) : S_api_Roster)

/-- waterhour/watch.Plan -/
def f14 (fuel : Nat) (p0 : S_api_Roster) (p1 : Int) : Option ((List Int) × Bool × Int) :=
  (M.f40 p0 p1) >>= fun v_1 =>
  (if (v_1 != 0) = true then (
  some (([] : List Int), false, v_1))
  else (
  (M.f42 p0) >>= fun v_3 =>
  (M.f41 fuel p0 p1 v_3) >>= fun v_5 =>
  some (v_5.1, v_5.2, 0)))

/-- waterhour/watch.Fewest -/
def f15 (fuel : Nat) (p0 : S_api_Roster) (p1 : Int) : Option ((List Int) × Bool × Int) :=
  (M.f40 p0 p1) >>= fun v_1 =>
  (if (v_1 != 0) = true then (
  some (([] : List Int), false, v_1))
  else (
  (M.f43 p0) >>= fun v_3 =>
  (M.f41 fuel p0 p1 v_3) >>= fun v_5 =>
  some (v_5.1, v_5.2, 0)))

/-- waterhour/watch.Reach -/
def f46 (fuel : Nat) (p0 : S_api_Roster) (p1 : Int) : Option ((List Int) × Int) :=
  (M.f40 p0 p1) >>= fun v_1 =>
  (if (v_1 != 0) = true then (
  some (([] : List Int), v_1))
  else (
  (M.f88 fuel p0 p1 (-1)) >>= fun v_3 =>
  some (v_3, 0)))

/-- waterhour/watch.Gap -/
def f17 (fuel : Nat) (p0 : S_api_Roster) (p1 : Int) : Option ((List Int) × Bool × Int) :=
  (M.f46 fuel p0 p1) >>= fun v_1 =>
  (guardO (!(v_1.2 != 0)) (M.f47 p0 v_1.1)) >>= fun v_3 =>
  (if ((v_1.2 != 0) || v_3) = true then (
  some (([] : List Int), false, v_1.2))
  else (
  some (v_1.1, true, 0)))

/-- (waterhour/watch.bounds).moment -/
def f92 (p0 : S_watch_bounds) (p1 : S_api_Roster) : Option ((List Int) × Bool) :=
  (forM (ρ := ((List Int) × Bool)) 0 (p1.2.2.2.1.length : Int) (([] : List Int) : (List Int)) fun i_1 s_3 =>
    (forS 0 (p1.2.2.2.1.length : Int) ((-33554432) : Int) fun i_8 s_10 =>
      (idx p1.2.2.2.1 i_8) >>= fun v_14 =>
      (idx p0.1 i_8) >>= fun v_16 =>
      (idx v_14 i_1) >>= fun v_18 =>
      some (imax s_10 (wr (v_16 - v_18)))) >>= fun s_10 =>
    (idx p0.2 i_1) >>= fun v_20 =>
    (if (decide (v_20 < s_10)) = true then (
    some (.leave (([] : List Int), false)))
    else (
    (app s_3 ([s_10] : List Int)) >>= fun z_22 =>
    some (.again z_22)))) >>= fun o_4 => Out.elim o_4 (fun s_3 =>
    some (s_3, true)) (fun p_25 =>
    some (p_25.1, p_25.2))

/-- waterhour/watch.idle -/
def f50 : Nat → S_api_Roster → (List Int) → S_watch_bounds → Option ((List Int) × Bool)
  | 0, _, _, _ => none
  | fuel + 1, p0, p1, p2 =>
    (if ((p1.length : Int) == 0) = true then (
    (M.f92 p2 p0) >>= fun v_1 =>
    some (v_1.1, v_1.2))
    else (
    (idx p1 0) >>= fun v_3 =>
    (idx p0.2.2.2.2 v_3) >>= fun v_5 =>
    (M.f93 p2.2) >>= fun m_8 =>
    (idx m_8 ((v_5 : S_api_Turn).2.1)) >>= fun v_13 =>
    (idx m_8 ((v_5 : S_api_Turn).2.1)) >>= fun v_15 =>
    (set1 m_8 ((v_5 : S_api_Turn).2.1) (imin v_13 (wr ((v_5 : S_api_Turn).2.2.1 - 1)))) >>= fun z_17 =>
    (cutF p1 1) >>= fun z_19 =>
    (f50 fuel p0 z_19 ((p2.1, z_17) : S_watch_bounds)) >>= fun v_21 =>
    (if v_21.2 = true then (
    some (v_21.1, true))
    else (
    (M.f93 p2.1) >>= fun m_23 =>
    (idx m_23 ((v_5 : S_api_Turn).2.2.2.1)) >>= fun v_27 =>
    (idx m_23 ((v_5 : S_api_Turn).2.2.2.1)) >>= fun v_29 =>
    (set1 m_23 ((v_5 : S_api_Turn).2.2.2.1) (imax v_27 ((v_5 : S_api_Turn).2.2.2.2.1))) >>= fun z_31 =>
    (cutF p1 1) >>= fun z_33 =>
    (f50 fuel p0 z_33 ((z_31, p2.2) : S_watch_bounds)) >>= fun v_35 =>
    some (v_35.1, v_35.2)))))

/-- waterhour/watch.Bare -/
def f18 (fuel : Nat) (p0 : S_api_Roster) (p1 : Int) (p2 : List Int) : Option ((List Int) × Bool × Int) :=
  (M.f48 p0 p1 p2) >>= fun v_1 =>
  (if (v_1 != 0) = true then (
  some (([] : List Int), false, v_1))
  else (
  (M.f49 ([(-67108864)] : List Int) (p0.2.2.2.1.length : Int)) >>= fun m_3 =>
  (M.f49 ([67108864] : List Int) (p0.2.2.2.1.length : Int)) >>= fun m_7 =>
  (idx m_3 0) >>= fun v_12 =>
  (set1 m_3 0 p0.2.1) >>= fun z_14 =>
  (idx m_7 0) >>= fun v_16 =>
  (set1 m_7 0 (wr (p0.2.2.1 - 1))) >>= fun z_18 =>
  (M.f50 fuel p0 p2 ((z_14, z_18) : S_watch_bounds)) >>= fun v_20 =>
  some (v_20.1, v_20.2, 0)))

/-- waterhour/watch.Print -/
def f5 (p0 : S_api_Turn) : Option (ByteArray × Int) :=
  (M.f26 p0) >>= fun v_1 =>
  (if (!v_1) = true then (
  some ((⟨#[]⟩ : ByteArray), 1))
  else (
  (forS 0 (([p0.1, p0.2.1, p0.2.2.1, p0.2.2.2.1, p0.2.2.2.2.1, p0.2.2.2.2.2] : List Int).length : Int) (([] : List ByteArray) : (List ByteArray)) fun i_3 s_5 =>
    (idx ([p0.1, p0.2.1, p0.2.2.1, p0.2.2.2.1, p0.2.2.2.2.1, p0.2.2.2.2.2] : List Int) i_3) >>= fun v_10 =>
    (M.f27 v_10) >>= fun v_12 =>
    (app s_5 ([v_12] : List ByteArray)) >>= fun z_14 =>
    some z_14) >>= fun s_5 =>
  (M.f28 s_5 (⟨#[32]⟩ : ByteArray)) >>= fun v_17 =>
  some (v_17, 0)))

/-- slices.Equal[[]int,int] -/
def f20 (p0 : List Int) (p1 : List Int) : Option Bool :=
  (if ((p0.length : Int) != (p1.length : Int)) = true then (
  some false)
  else (
  (forM (ρ := Bool) 0 (p0.length : Int) (() : Unit) fun i_1 s_3 =>
    (idx p0 i_1) >>= fun v_7 =>
    (idx p1 i_1) >>= fun v_9 =>
    (if (v_7 != v_9) = true then (
    some (.leave false))
    else (
    some (.again ())))) >>= fun o_4 => Out.elim o_4 (fun s_3 =>
    some true) (fun p_11 =>
    some p_11)))

/-- waterhour/waterhourlaw07.sane -/
def f4 (fuel : Nat)  : Option Bool :=
  (M.f9 4) >>= fun v_1 =>
  (M.f10 v_1 0) >>= fun v_3 =>
  (M.f11 v_1 0 2) >>= fun v_5 =>
  (M.f12 v_1 1) >>= fun v_7 =>
  (M.f13 v_1 ([149, 150] : List Int)) >>= fun v_9 =>
  (M.f14 fuel v_1 0) >>= fun v_11 =>
  (M.f15 fuel v_1 0) >>= fun v_13 =>
  (M.f16 fuel v_1 0) >>= fun v_15 =>
  (M.f9 2) >>= fun v_17 =>
  (M.f17 fuel v_17 0) >>= fun v_19 =>
  (M.f18 fuel v_1 0 ([0, 2] : List Int)) >>= fun v_21 =>
  (M.f19 fuel v_1 0 v_11.1) >>= fun v_23 =>
  (idx v_1.2.2.2.2 1) >>= fun v_25 =>
  (M.f5 v_25) >>= fun v_27 =>
  (guardO (!(((((((v_3.2 != 0) || (!v_3.1)) || (v_5.2 != 0)) || v_5.1) || (v_7.2 != 0)) || v_7.1) || (v_9.2 != 0))) (M.f20 v_9.1 ([0, 1, 3] : List Int))) >>= fun v_29 =>
  (if ((((((((v_3.2 != 0) || (!v_3.1)) || (v_5.2 != 0)) || v_5.1) || (v_7.2 != 0)) || v_7.1) || (v_9.2 != 0)) || (!v_29)) = true then (
  some false)
  else (
  (guardO (!((v_11.2.2 != 0) || (!v_11.2.1))) (M.f20 v_11.1 ([0, 1, 2] : List Int))) >>= fun v_31 =>
  (guardO (!(((((v_11.2.2 != 0) || (!v_11.2.1)) || (!v_31)) || (v_13.2.2 != 0)) || (!v_13.2.1))) (M.f20 v_13.1 ([3] : List Int))) >>= fun v_33 =>
  (guardO (!(((((((v_11.2.2 != 0) || (!v_11.2.1)) || (!v_31)) || (v_13.2.2 != 0)) || (!v_13.2.1)) || (!v_33)) || (v_15.2 != 0))) (M.f20 v_15.1 ([4, 7, 9, 9] : List Int))) >>= fun v_35 =>
  (if ((((((((v_11.2.2 != 0) || (!v_11.2.1)) || (!v_31)) || (v_13.2.2 != 0)) || (!v_13.2.1)) || (!v_33)) || (v_15.2 != 0)) || (!v_35)) = true then (
  some false)
  else (
  (guardO ((v_19.2.2 == 0) && v_19.2.1) (M.f20 v_19.1 ([0, 1] : List Int))) >>= fun v_37 =>
  (guardO (((((v_19.2.2 == 0) && v_19.2.1) && v_37) && (v_21.2.2 == 0)) && v_21.2.1) (M.f21 v_1 0 ([0, 2] : List Int) v_21.1)) >>= fun v_39 =>
  (guardO ((((((v_19.2.2 == 0) && v_19.2.1) && v_37) && (v_21.2.2 == 0)) && v_21.2.1) && (v_39 == 0)) (M.f21 v_1 0 ([0, 2] : List Int) ([149, 150] : List Int))) >>= fun v_41 =>
  (guardO (((((((((((v_19.2.2 == 0) && v_19.2.1) && v_37) && (v_21.2.2 == 0)) && v_21.2.1) && (v_39 == 0)) && (v_41 == 61)) && (v_23.2 == 0)) && (v_23.1 == 0)) && (v_27.2 == 0)) && (v_27.1 == (⟨#[48,32,48,32,49,52,53,32,49,32,49,55,48,32,51]⟩ : ByteArray))) (M.f22 fuel v_1 0 ([0, 2] : List Int))) >>= fun v_43 =>
  (guardO ((((((((((((v_19.2.2 == 0) && v_19.2.1) && v_37) && (v_21.2.2 == 0)) && v_21.2.1) && (v_39 == 0)) && (v_41 == 61)) && (v_23.2 == 0)) && (v_23.1 == 0)) && (v_27.2 == 0)) && (v_27.1 == (⟨#[48,32,48,32,49,52,53,32,49,32,49,55,48,32,51]⟩ : ByteArray))) && (v_43 == 71)) (M.f9 2)) >>= fun v_45 =>
  (guardO ((((((((((((v_19.2.2 == 0) && v_19.2.1) && v_37) && (v_21.2.2 == 0)) && v_21.2.1) && (v_39 == 0)) && (v_41 == 61)) && (v_23.2 == 0)) && (v_23.1 == 0)) && (v_27.2 == 0)) && (v_27.1 == (⟨#[48,32,48,32,49,52,53,32,49,32,49,55,48,32,51]⟩ : ByteArray))) && (v_43 == 71)) (M.f23 fuel v_45 0 ([0] : List Int))) >>= fun v_47 =>
  (guardO (((((((((((((v_19.2.2 == 0) && v_19.2.1) && v_37) && (v_21.2.2 == 0)) && v_21.2.1) && (v_39 == 0)) && (v_41 == 61)) && (v_23.2 == 0)) && (v_23.1 == 0)) && (v_27.2 == 0)) && (v_27.1 == (⟨#[48,32,48,32,49,52,53,32,49,32,49,55,48,32,51]⟩ : ByteArray))) && (v_43 == 71)) && (v_47 == 32)) (M.f24 v_1 0 9 v_15.1)) >>= fun v_49 =>
  (guardO ((((((((((((((v_19.2.2 == 0) && v_19.2.1) && v_37) && (v_21.2.2 == 0)) && v_21.2.1) && (v_39 == 0)) && (v_41 == 61)) && (v_23.2 == 0)) && (v_23.1 == 0)) && (v_27.2 == 0)) && (v_27.1 == (⟨#[48,32,48,32,49,52,53,32,49,32,49,55,48,32,51]⟩ : ByteArray))) && (v_43 == 71)) && (v_47 == 32)) && (v_49 == 0)) (M.f24 v_1 0 10 v_15.1)) >>= fun v_51 =>
  (guardO (((((((((((((((v_19.2.2 == 0) && v_19.2.1) && v_37) && (v_21.2.2 == 0)) && v_21.2.1) && (v_39 == 0)) && (v_41 == 61)) && (v_23.2 == 0)) && (v_23.1 == 0)) && (v_27.2 == 0)) && (v_27.1 == (⟨#[48,32,48,32,49,52,53,32,49,32,49,55,48,32,51]⟩ : ByteArray))) && (v_43 == 71)) && (v_47 == 32)) && (v_49 == 0)) && (v_51 == 32)) (M.f25 ((0, 0, 0, [], []) : S_api_Roster))) >>= fun v_53 =>
  some ((((((((((((((((v_19.2.2 == 0) && v_19.2.1) && v_37) && (v_21.2.2 == 0)) && v_21.2.1) && (v_39 == 0)) && (v_41 == 61)) && (v_23.2 == 0)) && (v_23.1 == 0)) && (v_27.2 == 0)) && (v_27.1 == (⟨#[48,32,48,32,49,52,53,32,49,32,49,55,48,32,51]⟩ : ByteArray))) && (v_43 == 71)) && (v_47 == 32)) && (v_49 == 0)) && (v_51 == 32)) && (v_53 == 70))))))

end Go.Proofs.YtnnhmgcigoiceaaGreatDoor.M
