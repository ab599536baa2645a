/-
  Models of Go functions, written by program; nothing is claimed here.
-/
import Derived.Test.YtkbilbeaedocjaaModelB2
namespace Go.Proofs.Ytkbilbeaedocjaa.M
open Go Go.Proofs.Ytkbilbeaedocjaa Go.Proofs.Ytkbilbeaedocjaa.Wh

/-- waterhour/keeper.Path$1 -/
def f115 : Nat → Int → Int → S_api_Market → (Vector Bool 8) → (List (List Int)) → (List (List Int)) → (List Int) → Option (Bool × (Vector Bool 8) × (List Int))
  | 0, _, _, _, _, _, _, _ => none
  | fuel + 1, p0, c0, c1, c2, c3, c4, c5 =>
    (if (p0 == c0) = true then (
    some (true, c2, c5))
    else (
    (forM (ρ := (Bool × (Vector Bool 8) × (List Int))) 0 c1.1 ((c2, c5) : (Vector Bool 8) × (List Int)) fun i_1 s_3 =>
      (idxA s_3.1 i_1) >>= fun v_8 =>
      (guardO (!v_8) (idx c3 p0)) >>= fun v_10 =>
      (guardO (!v_8) (idx v_10 i_1)) >>= fun v_12 =>
      (guardO (!(v_8 || (decide (1099511627776 ≤ v_12)))) (idx c3 p0)) >>= fun v_14 =>
      (guardO (!(v_8 || (decide (1099511627776 ≤ v_12)))) (idx v_14 i_1)) >>= fun v_16 =>
      (guardO (!(v_8 || (decide (1099511627776 ≤ v_12)))) (idx c4 i_1)) >>= fun v_18 =>
      (guardO (!(v_8 || (decide (1099511627776 ≤ v_12)))) (idx v_18 c0)) >>= fun v_20 =>
      (guardO (!(v_8 || (decide (1099511627776 ≤ v_12)))) (idx c4 p0)) >>= fun v_22 =>
      (guardO (!(v_8 || (decide (1099511627776 ≤ v_12)))) (idx v_22 c0)) >>= fun v_24 =>
      (if ((v_8 || (decide (1099511627776 ≤ v_12))) || ((wr (v_16 + v_20)) != v_24)) = true then (
      some (.again (s_3.1, s_3.2)))
      else (
      (app s_3.2 ([i_1] : List Int)) >>= fun z_26 =>
      (idxA s_3.1 i_1) >>= fun v_29 =>
      (setA s_3.1 i_1 true) >>= fun z_31 =>
      (f115 fuel i_1 c0 c1 z_31 c3 c4 z_26) >>= fun z_33 =>
      (if z_33.1 = true then (
      some (.leave (true, z_33.2.1, z_33.2.2)))
      else (
      (cut z_33.2.2 (wr ((z_33.2.2.length : Int) - 1))) >>= fun z_36 =>
      some (.again (z_33.2.1, z_36))))))) >>= fun o_4 => Out.elim o_4 (fun s_3 =>
      some (false, s_3.1, s_3.2)) (fun p_38 =>
      some p_38)))

/-- waterhour/keeper.Path -/
def f66 (fuel : Nat) (p0 : S_api_Market) (p1 : List Int) (p2 : Int) (p3 : Int) : Option ((List Int) × Int) :=
  (M.f76 p0 p1 ((([p2, p3] : List Int), []) : S_keeper_numbers)) >>= fun v_1 =>
  (if (v_1 != 0) = true then (
  some (([] : List Int), v_1))
  else (
  (M.f92 p1) >>= fun v_3 =>
  (M.f83 p0 v_3) >>= fun v_5 =>
  (M.f92 p1) >>= fun v_7 =>
  (M.f113 p0 v_7) >>= fun v_9 =>
  (idx (v_5 : List (List Int)) p2) >>= fun v_13 =>
  (idx v_13 p3) >>= fun v_15 =>
  (if (decide (1099511627776 ≤ v_15)) = true then (
  some (([] : List Int), 4))
  else (
  (idxA (#v[false, false, false, false, false, false, false, false] : Vector Bool 8) p2) >>= fun v_20 =>
  (setA (#v[false, false, false, false, false, false, false, false] : Vector Bool 8) p2 true) >>= fun z_22 =>
  (M.f115 fuel p2 p3 p0 z_22 (v_9 : List (List Int)) (v_5 : List (List Int)) ([p2] : List Int)) >>= fun z_25 =>
  some (z_25.2.2, 0)))))

end Go.Proofs.Ytkbilbeaedocjaa.M
