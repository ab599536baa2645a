/-
  Models of Go functions, written by program; nothing is claimed here.
-/
import Derived.Test.YthogdhepjcomjaaGreatDoorModelD
namespace Go.Proofs.YthogdhepjcomjaaGreatDoor.M
open Go Go.Proofs.YthogdhepjcomjaaGreatDoor Go.Proofs.YthogdhepjcomjaaGreatDoor.Wh

/-- waterhour/waterhourlaw07.example -/
def f71 (p0 : Int) : Option S_api_Roster :=
  (cut ([((0, 1, 95, 0, 150, 4) : S_api_Turn), ((0, 0, 145, 1, 170, 3) : S_api_Turn), ((0, 1, 160, 1, 205, 2) : S_api_Turn), ((0, 0, 100, 0, 200, 11) : S_api_Turn)] : List S_api_Turn) p0) >>= fun z_2 =>
  some ((1, 100, 200, ([([0, 5] : List Int), ([3, 0] : List Int)] : List (List Int)), z_2) : S_api_Roster)

/-- waterhour/watch.Plan -/
def f34 (fuel : Nat) (p0 : S_api_Roster) (p1 : Int) : Option ((List Int) × Bool × Int) :=
  (M.f73 p0 p1) >>= fun v_1 =>
  (if (v_1 != 0) = true then (
  some (([] : List Int), false, v_1))
  else (
  (M.f80 p0) >>= fun v_3 =>
  (M.f79 fuel p0 p1 v_3) >>= fun v_5 =>
  some (v_5.1, v_5.2, 0)))

/-- waterhour/watch.Fewest -/
def f59 (fuel : Nat) (p0 : S_api_Roster) (p1 : Int) : Option ((List Int) × Bool × Int) :=
  (M.f73 p0 p1) >>= fun v_1 =>
  (if (v_1 != 0) = true then (
  some (([] : List Int), false, v_1))
  else (
  (M.f130 p0) >>= fun v_3 =>
  (M.f79 fuel p0 p1 v_3) >>= fun v_5 =>
  some (v_5.1, v_5.2, 0)))

/-- waterhour/watch.Reach -/
def f18 (fuel : Nat) (p0 : S_api_Roster) (p1 : Int) : Option ((List Int) × Int) :=
  (M.f73 p0 p1) >>= fun v_1 =>
  (if (v_1 != 0) = true then (
  some (([] : List Int), v_1))
  else (
  (M.f74 fuel p0 p1 (-1)) >>= fun v_3 =>
  some (v_3, 0)))

/-- waterhour/watch.Gap -/
def f20 (fuel : Nat) (p0 : S_api_Roster) (p1 : Int) : Option ((List Int) × Bool × Int) :=
  (M.f18 fuel p0 p1) >>= fun v_1 =>
  (guardO (!(v_1.2 != 0)) (M.f77 p0 v_1.1)) >>= fun v_3 =>
  (if ((v_1.2 != 0) || v_3) = true then (
  some (([] : List Int), false, v_1.2))
  else (
  some (v_1.1, true, 0)))

/-- (waterhour/watch.bounds).moment -/
def f152 (p0 : S_watch_bounds) (p1 : S_api_Roster) : Option ((List Int) × Bool) :=
  (forM (ρ := ((List Int) × Bool)) 0 (p1.2.2.2.1.length : Int) (([] : List Int) : (List Int)) fun i_1 s_3 =>
    (forS 0 (p1.2.2.2.1.length : Int) ((-33554432) : Int) fun i_8 s_10 =>
      (idx p1.2.2.2.1 i_8) >>= fun v_14 =>
      (idx p0.1 i_8) >>= fun v_16 =>
      (idx v_14 i_1) >>= fun v_18 =>
      some (imax s_10 (wr (v_16 - v_18)))) >>= fun s_10 =>
    (idx p0.2 i_1) >>= fun v_20 =>
    (if (decide (v_20 < s_10)) = true then (
    some (.leave (([] : List Int), false)))
    else (
    (app s_3 ([s_10] : List Int)) >>= fun z_22 =>
    some (.again z_22)))) >>= fun o_4 => Out.elim o_4 (fun s_3 =>
    some (s_3, true)) (fun p_25 =>
    some (p_25.1, p_25.2))

/-- waterhour/watch.idle -/
def f106 : Nat → S_api_Roster → (List Int) → S_watch_bounds → Option ((List Int) × Bool)
  | 0, _, _, _ => none
  | fuel + 1, p0, p1, p2 =>
    (if ((p1.length : Int) == 0) = true then (
    (M.f152 p2 p0) >>= fun v_1 =>
    some (v_1.1, v_1.2))
    else (
    (idx p1 0) >>= fun v_3 =>
    (idx p0.2.2.2.2 v_3) >>= fun v_5 =>
    (M.f45 p2.2) >>= fun m_8 =>
    (idx m_8 ((v_5 : S_api_Turn).2.1)) >>= fun v_13 =>
    (idx m_8 ((v_5 : S_api_Turn).2.1)) >>= fun v_15 =>
    (set1 m_8 ((v_5 : S_api_Turn).2.1) (imin v_13 (wr ((v_5 : S_api_Turn).2.2.1 - 1)))) >>= fun z_17 =>
    (cutF p1 1) >>= fun z_19 =>
    (f106 fuel p0 z_19 ((p2.1, z_17) : S_watch_bounds)) >>= fun v_21 =>
    (if v_21.2 = true then (
    some (v_21.1, true))
    else (
    (M.f45 p2.1) >>= fun m_23 =>
    (idx m_23 ((v_5 : S_api_Turn).2.2.2.1)) >>= fun v_27 =>
    (idx m_23 ((v_5 : S_api_Turn).2.2.2.1)) >>= fun v_29 =>
    (set1 m_23 ((v_5 : S_api_Turn).2.2.2.1) (imax v_27 ((v_5 : S_api_Turn).2.2.2.2.1))) >>= fun z_31 =>
    (cutF p1 1) >>= fun z_33 =>
    (f106 fuel p0 z_33 ((z_31, p2.2) : S_watch_bounds)) >>= fun v_35 =>
    some (v_35.1, v_35.2)))))

/-- waterhour/watch.Bare -/
def f29 (fuel : Nat) (p0 : S_api_Roster) (p1 : Int) (p2 : List Int) : Option ((List Int) × Bool × Int) :=
  (M.f104 p0 p1 p2) >>= fun v_1 =>
  (if (v_1 != 0) = true then (
  some (([] : List Int), false, v_1))
  else (
  (M.f105 ([(-67108864)] : List Int) (p0.2.2.2.1.length : Int)) >>= fun m_3 =>
  (M.f105 ([67108864] : List Int) (p0.2.2.2.1.length : Int)) >>= fun m_7 =>
  (idx m_3 0) >>= fun v_12 =>
  (set1 m_3 0 p0.2.1) >>= fun z_14 =>
  (idx m_7 0) >>= fun v_16 =>
  (set1 m_7 0 (wr (p0.2.2.1 - 1))) >>= fun z_18 =>
  (M.f106 fuel p0 p2 ((z_14, z_18) : S_watch_bounds)) >>= fun v_20 =>
  some (v_20.1, v_20.2, 0)))

/-- waterhour/watch.Print -/
def f72 (p0 : S_api_Turn) : Option (ByteArray × Int) :=
  (M.f123 p0) >>= fun v_1 =>
  (if (!v_1) = true then (
  some ((⟨#[]⟩ : ByteArray), 1))
  else (
  (forS 0 (([p0.1, p0.2.1, p0.2.2.1, p0.2.2.2.1, p0.2.2.2.2.1, p0.2.2.2.2.2] : List Int).length : Int) (([] : List ByteArray) : (List ByteArray)) fun i_3 s_5 =>
    (idx ([p0.1, p0.2.1, p0.2.2.1, p0.2.2.2.1, p0.2.2.2.2.1, p0.2.2.2.2.2] : List Int) i_3) >>= fun v_10 =>
    (M.f131 v_10) >>= fun v_12 =>
    (app s_5 ([v_12] : List ByteArray)) >>= fun z_14 =>
    some z_14) >>= fun s_5 =>
  (M.f132 s_5 (⟨#[32]⟩ : ByteArray)) >>= fun v_17 =>
  some (v_17, 0)))

/-- slices.Equal[[]int,int] -/
def f24 (p0 : List Int) (p1 : List Int) : Option Bool :=
  (if ((p0.length : Int) != (p1.length : Int)) = true then (
  some false)
  else (
  (forM (ρ := Bool) 0 (p0.length : Int) (() : Unit) fun i_1 s_3 =>
    (idx p0 i_1) >>= fun v_7 =>
    (idx p1 i_1) >>= fun v_9 =>
    (if (v_7 != v_9) = true then (
    some (.leave false))
    else (
    some (.again ())))) >>= fun o_4 => Out.elim o_4 (fun s_3 =>
    some true) (fun p_11 =>
    some p_11)))

/-- waterhour/waterhourlaw07.sane -/
def f16 (fuel : Nat)  : Option Bool :=
  (M.f71 4) >>= fun v_1 =>
  (M.f36 v_1 0) >>= fun v_3 =>
  (M.f38 v_1 0 2) >>= fun v_5 =>
  (M.f37 v_1 1) >>= fun v_7 =>
  (M.f40 v_1 ([149, 150] : List Int)) >>= fun v_9 =>
  (M.f34 fuel v_1 0) >>= fun v_11 =>
  (M.f59 fuel v_1 0) >>= fun v_13 =>
  (M.f22 fuel v_1 0) >>= fun v_15 =>
  (M.f71 2) >>= fun v_17 =>
  (M.f20 fuel v_17 0) >>= fun v_19 =>
  (M.f29 fuel v_1 0 ([0, 2] : List Int)) >>= fun v_21 =>
  (M.f57 fuel v_1 0 v_11.1) >>= fun v_23 =>
  (idx v_1.2.2.2.2 1) >>= fun v_25 =>
  (M.f72 v_25) >>= fun v_27 =>
  (guardO (!(((((((v_3.2 != 0) || (!v_3.1)) || (v_5.2 != 0)) || v_5.1) || (v_7.2 != 0)) || v_7.1) || (v_9.2 != 0))) (M.f24 v_9.1 ([0, 1, 3] : List Int))) >>= fun v_29 =>
  (if ((((((((v_3.2 != 0) || (!v_3.1)) || (v_5.2 != 0)) || v_5.1) || (v_7.2 != 0)) || v_7.1) || (v_9.2 != 0)) || (!v_29)) = true then (
  some false)
  else (
  (guardO (!((v_11.2.2 != 0) || (!v_11.2.1))) (M.f24 v_11.1 ([0, 1, 2] : List Int))) >>= fun v_31 =>
  (guardO (!(((((v_11.2.2 != 0) || (!v_11.2.1)) || (!v_31)) || (v_13.2.2 != 0)) || (!v_13.2.1))) (M.f24 v_13.1 ([3] : List Int))) >>= fun v_33 =>
  (guardO (!(((((((v_11.2.2 != 0) || (!v_11.2.1)) || (!v_31)) || (v_13.2.2 != 0)) || (!v_13.2.1)) || (!v_33)) || (v_15.2 != 0))) (M.f24 v_15.1 ([4, 7, 9, 9] : List Int))) >>= fun v_35 =>
  (if ((((((((v_11.2.2 != 0) || (!v_11.2.1)) || (!v_31)) || (v_13.2.2 != 0)) || (!v_13.2.1)) || (!v_33)) || (v_15.2 != 0)) || (!v_35)) = true then (
  some false)
  else (
  (guardO ((v_19.2.2 == 0) && v_19.2.1) (M.f24 v_19.1 ([0, 1] : List Int))) >>= fun v_37 =>
  (guardO (((((v_19.2.2 == 0) && v_19.2.1) && v_37) && (v_21.2.2 == 0)) && v_21.2.1) (M.f32 v_1 0 ([0, 2] : List Int) v_21.1)) >>= fun v_39 =>
  (guardO ((((((v_19.2.2 == 0) && v_19.2.1) && v_37) && (v_21.2.2 == 0)) && v_21.2.1) && (v_39 == 0)) (M.f32 v_1 0 ([0, 2] : List Int) ([149, 150] : List Int))) >>= fun v_41 =>
  (guardO (((((((((((v_19.2.2 == 0) && v_19.2.1) && v_37) && (v_21.2.2 == 0)) && v_21.2.1) && (v_39 == 0)) && (v_41 == 61)) && (v_23.2 == 0)) && (v_23.1 == 0)) && (v_27.2 == 0)) && (v_27.1 == (⟨#[48,32,48,32,49,52,53,32,49,32,49,55,48,32,51]⟩ : ByteArray))) (M.f35 fuel v_1 0 ([0, 2] : List Int))) >>= fun v_43 =>
  (guardO ((((((((((((v_19.2.2 == 0) && v_19.2.1) && v_37) && (v_21.2.2 == 0)) && v_21.2.1) && (v_39 == 0)) && (v_41 == 61)) && (v_23.2 == 0)) && (v_23.1 == 0)) && (v_27.2 == 0)) && (v_27.1 == (⟨#[48,32,48,32,49,52,53,32,49,32,49,55,48,32,51]⟩ : ByteArray))) && (v_43 == 71)) (M.f71 2)) >>= fun v_45 =>
  (guardO ((((((((((((v_19.2.2 == 0) && v_19.2.1) && v_37) && (v_21.2.2 == 0)) && v_21.2.1) && (v_39 == 0)) && (v_41 == 61)) && (v_23.2 == 0)) && (v_23.1 == 0)) && (v_27.2 == 0)) && (v_27.1 == (⟨#[48,32,48,32,49,52,53,32,49,32,49,55,48,32,51]⟩ : ByteArray))) && (v_43 == 71)) (M.f25 fuel v_45 0 ([0] : List Int))) >>= fun v_47 =>
  (guardO (((((((((((((v_19.2.2 == 0) && v_19.2.1) && v_37) && (v_21.2.2 == 0)) && v_21.2.1) && (v_39 == 0)) && (v_41 == 61)) && (v_23.2 == 0)) && (v_23.1 == 0)) && (v_27.2 == 0)) && (v_27.1 == (⟨#[48,32,48,32,49,52,53,32,49,32,49,55,48,32,51]⟩ : ByteArray))) && (v_43 == 71)) && (v_47 == 32)) (M.f27 v_1 0 9 v_15.1)) >>= fun v_49 =>
  (guardO ((((((((((((((v_19.2.2 == 0) && v_19.2.1) && v_37) && (v_21.2.2 == 0)) && v_21.2.1) && (v_39 == 0)) && (v_41 == 61)) && (v_23.2 == 0)) && (v_23.1 == 0)) && (v_27.2 == 0)) && (v_27.1 == (⟨#[48,32,48,32,49,52,53,32,49,32,49,55,48,32,51]⟩ : ByteArray))) && (v_43 == 71)) && (v_47 == 32)) && (v_49 == 0)) (M.f27 v_1 0 10 v_15.1)) >>= fun v_51 =>
  (guardO (((((((((((((((v_19.2.2 == 0) && v_19.2.1) && v_37) && (v_21.2.2 == 0)) && v_21.2.1) && (v_39 == 0)) && (v_41 == 61)) && (v_23.2 == 0)) && (v_23.1 == 0)) && (v_27.2 == 0)) && (v_27.1 == (⟨#[48,32,48,32,49,52,53,32,49,32,49,55,48,32,51]⟩ : ByteArray))) && (v_43 == 71)) && (v_47 == 32)) && (v_49 == 0)) && (v_51 == 32)) (M.f47 ((0, 0, 0, [], []) : S_api_Roster))) >>= fun v_53 =>
  some ((((((((((((((((v_19.2.2 == 0) && v_19.2.1) && v_37) && (v_21.2.2 == 0)) && v_21.2.1) && (v_39 == 0)) && (v_41 == 61)) && (v_23.2 == 0)) && (v_23.1 == 0)) && (v_27.2 == 0)) && (v_27.1 == (⟨#[48,32,48,32,49,52,53,32,49,32,49,55,48,32,51]⟩ : ByteArray))) && (v_43 == 71)) && (v_47 == 32)) && (v_49 == 0)) && (v_51 == 32)) && (v_53 == 70))))))

/-- waterhour/waterhourlaw07.few -/
def f17 (p0 : S_api_Roster) (p1 : List (List Int)) : Option Bool :=
  (forM (ρ := Bool) 0 (p1.length : Int) (() : Unit) fun i_1 s_3 =>
    (idx p1 i_1) >>= fun v_7 =>
    (if (decide (100 < (v_7.length : Int))) = true then (
    some (.leave false))
    else (
    some (.again ())))) >>= fun o_4 => Out.elim o_4 (fun s_3 =>
    some ((decide ((p0.2.2.2.1.length : Int) ≤ 100)) && (decide ((p0.2.2.2.2.length : Int) ≤ 100)))) (fun p_9 =>
    some p_9)

/-- waterhour/waterhourref07.Right -/
def f116 (p0 : S_api_Turn) : Option Bool :=
  some ((((((((((((decide (0 ≤ p0.1)) && (decide (p0.1 < 8))) && (decide (0 ≤ p0.2.1))) && (decide (p0.2.1 < 8))) && (decide (0 ≤ p0.2.2.2.1))) && (decide (p0.2.2.2.1 < 8))) && (decide (0 ≤ p0.2.2.1))) && (decide (p0.2.2.1 ≤ 16777216))) && (decide (0 ≤ p0.2.2.2.2.1))) && (decide (p0.2.2.2.2.1 ≤ 16777216))) && (decide (0 ≤ p0.2.2.2.2.2))) && (decide (p0.2.2.2.2.2 ≤ 10000)))

/-- waterhour/waterhourref07.closed -/
def f117 (fuel : Nat) (p0 : List (List Int)) : Option Bool :=
  (loopM (ρ := (Unit ⊕ Bool)) (fun s_1 : Int =>
    (if (decide (s_1 < (p0.length : Int))) = true then (
    (loopM (ρ := (Unit ⊕ Bool)) (fun s_5 : Int =>
      (if (decide (s_5 < (p0.length : Int))) = true then (
      (loopM (ρ := (Unit ⊕ Bool)) (fun s_9 : Int =>
        (if (decide (s_9 < (p0.length : Int))) = true then (
        (idx p0 s_1) >>= fun v_13 =>
        (idx v_13 s_9) >>= fun v_15 =>
        (idx p0 s_1) >>= fun v_17 =>
        (idx v_17 s_5) >>= fun v_19 =>
        (idx p0 s_5) >>= fun v_21 =>
        (idx v_21 s_9) >>= fun v_23 =>
        (if (decide ((wr (v_19 + v_23)) < v_15)) = true then (
        some (.leave (.inr false)))
        else (
        some (.again (wr (s_9 + 1))))))
        else (
        some (.leave (.inl ()))))) fuel (0 : Int)) >>= fun o_10 =>
      (fun x_ => sumE x_ (fun p_25 =>
        some (.again (wr (s_5 + 1)))) (fun p_26 =>
        some (.leave (.inr p_26)))) o_10)
      else (
      some (.leave (.inl ()))))) fuel (0 : Int)) >>= fun o_6 =>
    (fun x_ => sumE x_ (fun p_27 =>
      some (.again (wr (s_1 + 1)))) (fun p_28 =>
      some (.leave (.inr p_28)))) o_6)
    else (
    some (.leave (.inl ()))))) fuel (0 : Int)) >>= fun o_2 =>
  (fun x_ => sumE x_ (fun p_29 =>
    some true) (fun p_30 =>
    some p_30)) o_2

/-- waterhour/waterhourref07.Valid -/
def f33 (fuel : Nat) (p0 : S_api_Roster) : Option Bool :=
  (if ((((((((decide (p0.1 < 1)) || (decide (8 < p0.1))) || (decide (p0.2.1 < 0))) || (decide (p0.2.2.1 ≤ p0.2.1))) || (decide (16777216 < p0.2.2.1))) || (decide ((p0.2.2.2.1.length : Int) < 1))) || (decide (8 < (p0.2.2.2.1.length : Int)))) || (decide (24 < (p0.2.2.2.2.length : Int)))) = true then (
  some false)
  else (
  (loopM (ρ := (Unit ⊕ Bool)) (fun s_1 : Int =>
    (if (decide (s_1 < (p0.2.2.2.1.length : Int))) = true then (
    (idx p0.2.2.2.1 s_1) >>= fun v_5 =>
    (guardO (!((v_5.length : Int) != (p0.2.2.2.1.length : Int))) (idx p0.2.2.2.1 s_1)) >>= fun v_7 =>
    (guardO (!((v_5.length : Int) != (p0.2.2.2.1.length : Int))) (idx v_7 s_1)) >>= fun v_9 =>
    (if (((v_5.length : Int) != (p0.2.2.2.1.length : Int)) || (v_9 != 0)) = true then (
    some (.leave (.inr false)))
    else (
    (loopM (ρ := (Unit ⊕ Bool)) (fun s_11 : Int =>
      (if (decide (s_11 < (p0.2.2.2.1.length : Int))) = true then (
      (idx p0.2.2.2.1 s_1) >>= fun v_15 =>
      (idx v_15 s_11) >>= fun v_17 =>
      (guardO (!(decide (v_17 < (-1048576)))) (idx p0.2.2.2.1 s_1)) >>= fun v_19 =>
      (guardO (!(decide (v_17 < (-1048576)))) (idx v_19 s_11)) >>= fun v_21 =>
      (if ((decide (v_17 < (-1048576))) || (decide (1048576 < v_21))) = true then (
      some (.leave (.inr false)))
      else (
      some (.again (wr (s_11 + 1))))))
      else (
      some (.leave (.inl ()))))) fuel (0 : Int)) >>= fun o_12 =>
    (fun x_ => sumE x_ (fun p_23 =>
      some (.again (wr (s_1 + 1)))) (fun p_24 =>
      some (.leave (.inr p_24)))) o_12)))
    else (
    some (.leave (.inl ()))))) fuel (0 : Int)) >>= fun o_2 =>
  (fun x_ => sumE x_ (fun p_45 =>
    (loopM (ρ := (Unit ⊕ Bool)) (fun s_46 : Int =>
      (if (decide (s_46 < (p0.2.2.2.2.length : Int))) = true then (
      (idx p0.2.2.2.2 s_46) >>= fun v_50 =>
      (guardO (!(decide (p0.1 ≤ v_50.1))) (idx p0.2.2.2.2 s_46)) >>= fun v_52 =>
      (guardO (!((decide (p0.1 ≤ v_50.1)) || (decide ((p0.2.2.2.1.length : Int) ≤ v_52.2.1)))) (idx p0.2.2.2.2 s_46)) >>= fun v_54 =>
      (guardO (!(((decide (p0.1 ≤ v_50.1)) || (decide ((p0.2.2.2.1.length : Int) ≤ v_52.2.1))) || (decide ((p0.2.2.2.1.length : Int) ≤ v_54.2.2.2.1)))) (idx p0.2.2.2.2 s_46)) >>= fun v_56 =>
      (guardO (!(((decide (p0.1 ≤ v_50.1)) || (decide ((p0.2.2.2.1.length : Int) ≤ v_52.2.1))) || (decide ((p0.2.2.2.1.length : Int) ≤ v_54.2.2.2.1)))) (M.f116 v_56)) >>= fun v_58 =>
      (if ((((decide (p0.1 ≤ v_50.1)) || (decide ((p0.2.2.2.1.length : Int) ≤ v_52.2.1))) || (decide ((p0.2.2.2.1.length : Int) ≤ v_54.2.2.2.1))) || (!v_58)) = true then (
      some (.leave (.inr false)))
      else (
      some (.again (wr (s_46 + 1))))))
      else (
      some (.leave (.inl ()))))) fuel (0 : Int)) >>= fun o_47 =>
    (fun x_ => sumE x_ (fun p_62 =>
      (M.f117 fuel p0.2.2.2.1) >>= fun v_63 =>
      some v_63) (fun p_65 =>
      some p_65)) o_47) (fun p_66 =>
    some p_66)) o_2))

/-- waterhour/waterhourref07.Check -/
def f48 (fuel : Nat) (p0 : S_api_Roster) : Option Int :=
  (M.f33 fuel p0) >>= fun v_1 =>
  (if (!v_1) = true then (
  some 70)
  else (
  some 0))

/-- waterhour/waterhourref07.turn -/
def f124 (p0 : S_api_Roster) (p1 : Int) : Option Bool :=
  some ((decide (0 ≤ p1)) && (decide (p1 < (p0.2.2.2.2.length : Int))))

/-- waterhour/waterhourref07.Starts -/
def f83 (p0 : S_api_Roster) (p1 : Int) : Option Bool :=
  (idx p0.2.2.2.2 p1) >>= fun v_1 =>
  (idx p0.2.2.2.1 0) >>= fun v_3 =>
  (idx v_3 v_1.2.1) >>= fun v_5 =>
  some (decide ((wr ((wr (v_1.2.2.1 - p0.2.1)) + v_5)) ≤ 0))

/-- waterhour/waterhourref07.Begins -/
def f49 (fuel : Nat) (p0 : S_api_Roster) (p1 : Int) : Option (Bool × Int) :=
  (M.f33 fuel p0) >>= fun v_1 =>
  (if (!v_1) = true then (
  some (false, 70))
  else (
  (M.f124 p0 p1) >>= fun v_3 =>
  (if (!v_3) = true then (
  some (false, 1))
  else (
  (M.f83 p0 p1) >>= fun v_5 =>
  some (v_5, 0)))))

/-- waterhour/waterhourref07.Lasts -/
def f98 (p0 : S_api_Roster) (p1 : Int) : Option Bool :=
  (idx p0.2.2.2.2 p1) >>= fun v_1 =>
  (idx p0.2.2.2.1 v_1.2.2.2.1) >>= fun v_3 =>
  (idx v_3 0) >>= fun v_5 =>
  some (decide ((wr ((wr (p0.2.2.1 - v_1.2.2.2.2.1)) + v_5)) ≤ 0))

/-- waterhour/waterhourref07.Ends -/
def f50 (fuel : Nat) (p0 : S_api_Roster) (p1 : Int) : Option (Bool × Int) :=
  (M.f33 fuel p0) >>= fun v_1 =>
  (if (!v_1) = true then (
  some (false, 70))
  else (
  (M.f124 p0 p1) >>= fun v_3 =>
  (if (!v_3) = true then (
  some (false, 1))
  else (
  (M.f98 p0 p1) >>= fun v_5 =>
  some (v_5, 0)))))

/-- waterhour/waterhourref07.Follows -/
def f84 (p0 : S_api_Roster) (p1 : Int) (p2 : Int) : Option Bool :=
  (idx p0.2.2.2.2 p1) >>= fun v_1 =>
  (idx p0.2.2.2.2 p2) >>= fun v_3 =>
  (guardO ((p1 != p2) && (v_1.1 == v_3.1)) (idx p0.2.2.2.1 v_1.2.2.2.1)) >>= fun v_5 =>
  (guardO ((p1 != p2) && (v_1.1 == v_3.1)) (idx v_5 v_3.2.1)) >>= fun v_7 =>
  some (((p1 != p2) && (v_1.1 == v_3.1)) && (decide ((wr ((wr (v_3.2.2.1 - v_1.2.2.2.2.1)) + v_7)) ≤ 0)))

/-- waterhour/waterhourref07.Meets -/
def f51 (fuel : Nat) (p0 : S_api_Roster) (p1 : Int) (p2 : Int) : Option (Bool × Int) :=
  (M.f33 fuel p0) >>= fun v_1 =>
  (if (!v_1) = true then (
  some (false, 70))
  else (
  (M.f124 p0 p1) >>= fun v_3 =>
  (guardO (!(!v_3)) (M.f124 p0 p2)) >>= fun v_5 =>
  (if ((!v_3) || (!v_5)) = true then (
  some (false, 1))
  else (
  (M.f84 p0 p1 p2) >>= fun v_7 =>
  some (v_7, 0)))))

/-- waterhour/waterhourref07.shows -/
def f110 (fuel : Nat) (p0 : S_api_Roster) (p1 : List Int) : Option Int :=
  (if ((p1.length : Int) != (p0.2.2.2.1.length : Int)) = true then (
  some 1)
  else (
  (loopM (ρ := (Unit ⊕ Int)) (fun s_1 : Int =>
    (if (decide (s_1 < (p1.length : Int))) = true then (
    (idx p1 s_1) >>= fun v_5 =>
    (guardO (!(decide (v_5 < (-33554432)))) (idx p1 s_1)) >>= fun v_7 =>
    (if ((decide (v_5 < (-33554432))) || (decide (33554432 < v_7))) = true then (
    some (.leave (.inr 1)))
    else (
    some (.again (wr (s_1 + 1))))))
    else (
    some (.leave (.inl ()))))) fuel (0 : Int)) >>= fun o_2 =>
  (fun x_ => sumE x_ (fun p_29 =>
    (loopM (ρ := (Unit ⊕ Int)) (fun s_30 : Int =>
      (if (decide (s_30 < (p1.length : Int))) = true then (
      (loopM (ρ := (Unit ⊕ Int)) (fun s_34 : Int =>
        (if (decide (s_34 < (p1.length : Int))) = true then (
        (idx p1 s_30) >>= fun v_38 =>
        (idx p1 s_34) >>= fun v_40 =>
        (idx p0.2.2.2.1 s_30) >>= fun v_42 =>
        (idx v_42 s_34) >>= fun v_44 =>
        (if (decide (v_44 < (wr (v_38 - v_40)))) = true then (
        some (.leave (.inr 61)))
        else (
        some (.again (wr (s_34 + 1))))))
        else (
        some (.leave (.inl ()))))) fuel (0 : Int)) >>= fun o_35 =>
      (fun x_ => sumE x_ (fun p_46 =>
        some (.again (wr (s_30 + 1)))) (fun p_47 =>
        some (.leave (.inr p_47)))) o_35)
      else (
      some (.leave (.inl ()))))) fuel (0 : Int)) >>= fun o_31 =>
    (fun x_ => sumE x_ (fun p_48 =>
      some 0) (fun p_49 =>
      some p_49)) o_31) (fun p_50 =>
    some p_50)) o_2))

/-- waterhour/waterhourref07.Guards -/
def f111 (p0 : S_api_Turn) (p1 : List Int) : Option Bool :=
  (idx p1 p0.2.1) >>= fun v_1 =>
  (guardO (decide (p0.2.2.1 ≤ v_1)) (idx p1 p0.2.2.2.1)) >>= fun v_3 =>
  some ((decide (p0.2.2.1 ≤ v_1)) && (decide (v_3 < p0.2.2.2.2.1)))

/-- waterhour/waterhourref07.Who -/
def f52 (fuel : Nat) (p0 : S_api_Roster) (p1 : List Int) : Option ((List Int) × Int) :=
  (M.f33 fuel p0) >>= fun v_1 =>
  (if (!v_1) = true then (
  some (([] : List Int), 70))
  else (
  (M.f110 fuel p0 p1) >>= fun v_3 =>
  (if (v_3 != 0) = true then (
  some (([] : List Int), v_3))
  else (
  (loopM (ρ := (List Int)) (fun s_5 : Int × (List Int) =>
    (if (decide (s_5.1 < (p0.2.2.2.2.length : Int))) = true then (
    (idx p0.2.2.2.2 s_5.1) >>= fun v_10 =>
    (M.f111 v_10 p1) >>= fun v_12 =>
    (if v_12 = true then (
    (app s_5.2 ([s_5.1] : List Int)) >>= fun z_17 =>
    some z_17)
    else (
    some s_5.2)) >>= fun y_15 =>
    some (.again ((wr (s_5.1 + 1)), y_15)))
    else (
    some (.leave s_5.2)))) fuel ((0, ([] : List Int)) : Int × (List Int))) >>= fun o_6 =>
  (fun p_20 =>
    some (p_20, 0)) o_6))))

/-- waterhour/waterhourref07.different -/
def f96 (fuel : Nat) (p0 : S_api_Roster) (p1 : Int) (p2 : List Int) : Option Bool :=
  (loopM (ρ := (Unit ⊕ Bool)) (fun s_1 : Int =>
    (if (decide (s_1 < (p2.length : Int))) = true then (
    (idx p2 s_1) >>= fun v_5 =>
    (M.f124 p0 v_5) >>= fun v_7 =>
    (guardO ((!(!v_7)) && (decide (0 ≤ p1))) (idx p2 s_1)) >>= fun v_9 =>
    (guardO ((!(!v_7)) && (decide (0 ≤ p1))) (idx p0.2.2.2.2 v_9)) >>= fun v_11 =>
    (if ((!v_7) || ((decide (0 ≤ p1)) && (v_11.1 != p1))) = true then (
    some (.leave (.inr false)))
    else (
    (loopM (ρ := (Unit ⊕ Bool)) (fun s_13 : Int =>
      (if (decide (s_13 < s_1)) = true then (
      (idx p2 s_13) >>= fun v_17 =>
      (idx p2 s_1) >>= fun v_19 =>
      (if (v_17 == v_19) = true then (
      some (.leave (.inr false)))
      else (
      some (.again (wr (s_13 + 1))))))
      else (
      some (.leave (.inl ()))))) fuel (0 : Int)) >>= fun o_14 =>
    (fun x_ => sumE x_ (fun p_21 =>
      some (.again (wr (s_1 + 1)))) (fun p_22 =>
      some (.leave (.inr p_22)))) o_14)))
    else (
    some (.leave (.inl ()))))) fuel (0 : Int)) >>= fun o_2 =>
  (fun x_ => sumE x_ (fun p_23 =>
    some true) (fun p_24 =>
    some p_24)) o_2

/-- waterhour/waterhourref07.Cost -/
def f54 (fuel : Nat) (p0 : S_api_Roster) (p1 : List Int) : Option (Int × Int) :=
  (M.f33 fuel p0) >>= fun v_1 =>
  (if (!v_1) = true then (
  some (0, 70))
  else (
  (M.f96 fuel p0 (-1) p1) >>= fun v_3 =>
  (if (!v_3) = true then (
  some (0, 1))
  else (
  (loopM (ρ := Int) (fun s_5 : Int × Int =>
    (if (decide (s_5.2 < (p1.length : Int))) = true then (
    (idx p1 s_5.2) >>= fun v_9 =>
    (idx p0.2.2.2.2 v_9) >>= fun v_11 =>
    some (.again ((wr (s_5.1 + v_11.2.2.2.2.2)), (wr (s_5.2 + 1)))))
    else (
    some (.leave s_5.1)))) fuel ((0, 0) : Int × Int)) >>= fun o_6 =>
  (fun p_13 =>
    some (p_13, 0)) o_6))))

/-- waterhour/waterhourlaw07.WatchTurns -/
def f9 (fuel : Nat) (p0 : S_api_Roster) (p1 : Int) (p2 : Int) (p3 : List Int) (p4 : List Int) : Option Bool :=
  (M.f16 fuel ) >>= fun v_1 =>
  (if (!v_1) = true then (
  some false)
  else (
  (M.f17 p0 ([p3, p4] : List (List Int))) >>= fun v_3 =>
  (if (!v_3) = true then (
  some true)
  else (
  (M.f47 p0) >>= fun v_5 =>
  (M.f48 fuel p0) >>= fun v_7 =>
  (if (v_5 != v_7) = true then (
  some false)
  else (
  (M.f36 p0 p1) >>= fun v_9 =>
  (M.f49 fuel p0 p1) >>= fun v_11 =>
  (M.f37 p0 p1) >>= fun v_13 =>
  (M.f50 fuel p0 p1) >>= fun v_15 =>
  (M.f38 p0 p1 p2) >>= fun v_17 =>
  (M.f51 fuel p0 p1 p2) >>= fun v_19 =>
  (if ((((((v_9.1 != v_11.1) || (v_9.2 != v_11.2)) || (v_13.1 != v_15.1)) || (v_13.2 != v_15.2)) || (v_17.1 != v_19.1)) || (v_17.2 != v_19.2)) = true then (
  some false)
  else (
  (M.f40 p0 p3) >>= fun v_21 =>
  (M.f52 fuel p0 p3) >>= fun v_23 =>
  (M.f53 p0 p4) >>= fun v_25 =>
  (M.f54 fuel p0 p4) >>= fun v_27 =>
  (M.f24 v_21.1 v_23.1) >>= fun v_29 =>
  some (((v_29 && (v_21.2 == v_23.2)) && (v_25.1 == v_27.1)) && (v_25.2 == v_27.2))))))))))

end Go.Proofs.YthogdhepjcomjaaGreatDoor.M
