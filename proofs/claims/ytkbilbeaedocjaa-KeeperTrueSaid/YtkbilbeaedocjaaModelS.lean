/-
  Models of Go functions, written by program; nothing is claimed here.
-/
import Derived.Test.YtkbilbeaedocjaaModelB2
namespace Go.Proofs.Ytkbilbeaedocjaa.M
open Go Go.Proofs.Ytkbilbeaedocjaa Go.Proofs.Ytkbilbeaedocjaa.Wh

/-- waterhour/keeper.Shown$1 -/
def f111 (p0 : Int) (c0 : List (List Int)) (c1 : Int) : Option Int :=
  (idx c0 c1) >>= fun v_1 =>
  (idx v_1 p0) >>= fun v_3 =>
  (if (decide (1099511627776 ≤ v_3)) = true then (
  some 0)
  else (
  (idx c0 c1) >>= fun v_5 =>
  (idx v_5 p0) >>= fun v_7 =>
  some v_7))

/-- waterhour/keeper.Shown$2 -/
def f112 (p0 : S_api_Offer) (c0 : (Int → Option Int)) : Option S_api_Span :=
  (c0 p0.2.1) >>= fun v_2 =>
  (c0 p0.1) >>= fun v_4 =>
  some (((imin 0 (wr (v_2 - v_4))), (wr ((imin 0 (wr (v_2 - v_4))) + p0.2.2.2))) : S_api_Span)

/-- waterhour/keeper.Shown -/
def f63 (p0 : S_api_Market) (p1 : List Int) (p2 : Int) (p3 : Int) : Option ((List S_api_Span) × (List S_api_Span) × Int) :=
  (M.f76 p0 p1 ((([p2, p3] : List Int), []) : S_keeper_numbers)) >>= fun v_1 =>
  (if (v_1 != 0) = true then (
  some (([] : List S_api_Span), ([] : List S_api_Span), v_1))
  else (
  (M.f92 p1) >>= fun v_3 =>
  (M.f83 p0 v_3) >>= fun v_5 =>
  (idx (v_5 : List (List Int)) p2) >>= fun v_8 =>
  (idx v_8 p3) >>= fun v_10 =>
  (if (decide (1099511627776 ≤ v_10)) = true then (
  some (([] : List S_api_Span), ([] : List S_api_Span), 4))
  else (
  (forS 0 (p0.2.1.length : Int) (([] : List S_api_Span) : (List S_api_Span)) fun i_12 s_14 =>
    (idx p0.2.1 i_12) >>= fun v_19 =>
    (((fun x0 => M.f112 x0 ((fun x0 => M.f111 x0 (v_5 : List (List Int)) p2) : (Int → Option Int))) : (S_api_Offer → Option S_api_Span)) v_19) >>= fun v_21 =>
    (app s_14 ([v_21] : List S_api_Span)) >>= fun z_23 =>
    some z_23) >>= fun s_14 =>
  (forS 0 (p1.length : Int) (([] : List S_api_Span) : (List S_api_Span)) fun i_26 s_28 =>
    (idx p1 i_26) >>= fun v_33 =>
    (idx p0.2.2 v_33) >>= fun v_35 =>
    (((fun x0 => M.f112 x0 ((fun x0 => M.f111 x0 (v_5 : List (List Int)) p2) : (Int → Option Int))) : (S_api_Offer → Option S_api_Span)) v_35) >>= fun v_37 =>
    (app s_28 ([v_37] : List S_api_Span)) >>= fun z_39 =>
    some z_39) >>= fun s_28 =>
  some (s_14, s_28, 0)))))

end Go.Proofs.Ytkbilbeaedocjaa.M
