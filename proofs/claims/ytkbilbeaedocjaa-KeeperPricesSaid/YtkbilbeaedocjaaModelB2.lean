/-
  Models of Go functions, written by program; nothing is claimed here.
-/
import Derived.Test.YtkbilbeaedocjaaModelB1
namespace Go.Proofs.Ytkbilbeaedocjaa.M
open Go Go.Proofs.Ytkbilbeaedocjaa Go.Proofs.Ytkbilbeaedocjaa.Wh

/-- waterhour/keeper.fronts -/
def f93 (p0 : S_api_Market) (p1 : Int) : Option (List (List (Vector Int 2))) :=
  (mk p0.1 ([] : List (Vector Int 2))) >>= fun q_1 =>
  (shl 1 (p0.2.2.length : Int)) >>= fun v_4 =>
  (forS 0 v_4 (q_1 : (List (List (Vector Int 2)))) fun i_6 s_8 =>
    (M.f83 p0 i_6) >>= fun v_14 =>
    (M.f82 i_6 p0) >>= fun v_16 =>
    (forS 0 (s_8.length : Int) (s_8 : (List (List (Vector Int 2)))) fun i_18 s_20 =>
      (idx v_14 p1) >>= fun v_26 =>
      (idx v_26 i_18) >>= fun v_28 =>
      (if (decide (v_28 < 1099511627776)) = true then (
      (idx s_20 i_18) >>= fun v_34 =>
      (idx v_14 p1) >>= fun v_36 =>
      (idx v_36 i_18) >>= fun v_38 =>
      (idx s_20 i_18) >>= fun r_41 =>
      (app r_41 ([(#v[v_16, v_38] : Vector Int 2)] : List (Vector Int 2))) >>= fun z_43 =>
      (idx s_20 i_18) >>= fun v_46 =>
      (set1 s_20 i_18 z_43) >>= fun z_48 =>
      some z_48)
      else (
      some s_20)) >>= fun y_31 =>
      some y_31) >>= fun s_20 =>
    some s_20) >>= fun s_8 =>
  (forS 0 (s_8.length : Int) (s_8 : (List (List (Vector Int 2)))) fun i_51 s_53 =>
    (idx s_53 i_51) >>= fun v_59 =>
    (idx s_53 i_51) >>= fun r_62 =>
    (M.f122 r_62 (fun x0 x1 => M.f123 x0 x1)) >>= fun z_64 =>
    (forS 0 (z_64.length : Int) (([] : List (Vector Int 2)) : (List (Vector Int 2))) fun i_66 s_68 =>
      (idx z_64 i_66) >>= fun v_73 =>
      (guardO (!((s_68.length : Int) == 0)) (idxA v_73 1)) >>= fun v_75 =>
      (guardO (!((s_68.length : Int) == 0)) (idx s_68 (wr ((s_68.length : Int) - 1)))) >>= fun v_77 =>
      (guardO (!((s_68.length : Int) == 0)) (idxA v_77 1)) >>= fun v_79 =>
      (if (((s_68.length : Int) == 0) || (decide (v_75 < v_79))) = true then (
      (app s_68 ([v_73] : List (Vector Int 2))) >>= fun z_84 =>
      some z_84)
      else (
      some s_68)) >>= fun y_82 =>
      some y_82) >>= fun s_68 =>
    (idx s_53 i_51) >>= fun v_87 =>
    (set1 s_53 i_51 s_68) >>= fun z_89 =>
    some z_89) >>= fun s_53 =>
  some s_53

/-- waterhour/keeper.Fronts -/
def f34 (p0 : S_api_Market) (p1 : Int) : Option ((List (List (Vector Int 2))) × Int) :=
  (M.f76 p0 ([] : List Int) ((([p1] : List Int), []) : S_keeper_numbers)) >>= fun v_1 =>
  (if (v_1 != 0) = true then (
  some (([] : List (List (Vector Int 2))), v_1))
  else (
  (M.f93 p0 p1) >>= fun v_3 =>
  some (v_3, 0)))

/-- waterhour/keeper.together$1 -/
def f120 (p0 : Int) (c0 : S_api_Market) (c1 : Int) : Option Bool :=
  (M.f83 c0 p0) >>= fun v_1 =>
  (forM (ρ := Bool) 0 c0.1 (() : Unit) fun i_3 s_5 =>
    (forM (ρ := Bool) 0 c0.1 (() : Unit) fun i_9 s_11 =>
      (idx v_1 i_3) >>= fun v_15 =>
      (idx v_15 i_9) >>= fun v_17 =>
      (if (decide (c1 < v_17)) = true then (
      some (.leave false))
      else (
      some (.again ())))) >>= fun o_12 => Out.elim o_12 (fun s_11 =>
      some (.again ())) (fun p_19 =>
      some (.leave p_19))) >>= fun o_6 => Out.elim o_6 (fun s_5 =>
    some true) (fun p_20 =>
    some p_20)

/-- waterhour/keeper.together -/
def f87 (p0 : S_api_Market) (p1 : Int) : Option S_keeper_want :=
  some ((((fun x0 => M.f120 x0 p0 p1) : (Int → Option Bool)), ()) : S_keeper_want)

/-- waterhour/keeper.Together -/
def f27 (p0 : S_api_Market) (p1 : Int) : Option ((List Int) × Bool × Int) :=
  (M.f76 p0 ([] : List Int) (([], ([p1] : List Int)) : S_keeper_numbers)) >>= fun v_1 =>
  (if (v_1 != 0) = true then (
  some (([] : List Int), false, v_1))
  else (
  (M.f87 p0 p1) >>= fun v_3 =>
  (M.f78 v_3 p0) >>= fun v_5 =>
  (M.f85 v_5) >>= fun v_7 =>
  some (v_7.1, v_7.2.1, v_7.2.2)))

/-- waterhour/keeper.tells -/
def f108 (p0 : List S_api_Offer) (p1 : List S_api_Span) : Option Bool :=
  (if ((p0.length : Int) != (p1.length : Int)) = true then (
  some false)
  else (
  (forM (ρ := Bool) 0 (p1.length : Int) (() : Unit) fun i_1 s_3 =>
    (idx p1 i_1) >>= fun v_7 =>
    (guardO (!((decide (v_7.1 < (-1073741824))) || (decide (1073741824 < v_7.1)))) (idx p0 i_1)) >>= fun v_10 =>
    (if (((decide (v_7.1 < (-1073741824))) || (decide (1073741824 < v_7.1))) || (v_7.2 != (wr (v_7.1 + v_10.2.2.2)))) = true then (
    some (.leave false))
    else (
    some (.again ())))) >>= fun o_4 => Out.elim o_4 (fun s_3 =>
    some true) (fun p_12 =>
    some p_12)))

/-- slices.Concat[[]waterhour/api.Offer,waterhour/api.Offer] -/
def f46 (p0 : List (List S_api_Offer)) : Option (List S_api_Offer) :=
  (forS 0 (p0.length : Int) (0 : Int) fun i_1 s_3 =>
    (idx p0 i_1) >>= fun v_7 =>
    (if (decide ((wr (s_3 + (v_7.length : Int))) < 0)) = true then (
    none)
    else (
    some ())) >>= fun () =>
    some (wr (s_3 + (v_7.length : Int)))) >>= fun s_3 =>
  (M.f98 s_3) >>= fun m_10 =>
  (forS 0 (p0.length : Int) (([] : List S_api_Offer) : (List S_api_Offer)) fun i_14 s_16 =>
    (idx p0 i_14) >>= fun v_21 =>
    (app s_16 v_21) >>= fun z_23 =>
    some z_23) >>= fun s_16 =>
  some s_16

/-- slices.Concat[[]waterhour/api.Span,waterhour/api.Span] -/
def f110 (p0 : List (List S_api_Span)) : Option (List S_api_Span) :=
  (forS 0 (p0.length : Int) (0 : Int) fun i_1 s_3 =>
    (idx p0 i_1) >>= fun v_7 =>
    (if (decide ((wr (s_3 + (v_7.length : Int))) < 0)) = true then (
    none)
    else (
    some ())) >>= fun () =>
    some (wr (s_3 + (v_7.length : Int)))) >>= fun s_3 =>
  (M.f127 s_3) >>= fun m_10 =>
  (forS 0 (p0.length : Int) (([] : List S_api_Span) : (List S_api_Span)) fun i_14 s_16 =>
    (idx p0 i_14) >>= fun v_21 =>
    (app s_16 v_21) >>= fun z_23 =>
    some z_23) >>= fun s_16 =>
  some s_16

/-- waterhour/keeper.Known -/
def f61 (p0 : S_api_Market) (p1 : List Int) (p2 : Int) (p3 : Int) (p4 : List S_api_Span) (p5 : List S_api_Span) : Option (S_api_Span × Bool × Int) :=
  (M.f76 p0 p1 ((([p2, p3] : List Int), []) : S_keeper_numbers)) >>= fun v_2 =>
  (if (v_2 != 0) = true then (
  some (((0, 0) : S_api_Span), false, v_2))
  else (
  (forS 0 (p1.length : Int) (([] : List S_api_Offer) : (List S_api_Offer)) fun i_4 s_6 =>
    (idx p1 i_4) >>= fun v_11 =>
    (idx p0.2.2 v_11) >>= fun v_13 =>
    (app s_6 ([v_13] : List S_api_Offer)) >>= fun z_15 =>
    some z_15) >>= fun s_6 =>
  (M.f108 p0.2.1 p4) >>= fun v_18 =>
  (guardO (!(!v_18)) (M.f108 s_6 p5)) >>= fun v_20 =>
  (if ((!v_18) || (!v_20)) = true then (
  some (((0, 0) : S_api_Span), false, 1))
  else (
  (M.f109 p0.1) >>= fun m_22 =>
  (forS 0 p0.1 (m_22 : (List (List Int))) fun i_26 s_28 =>
    (idx s_28 i_26) >>= fun v_32 =>
    (idx v_32 i_26) >>= fun v_34 =>
    (set2 s_28 i_26 i_26 0) >>= fun z_36 =>
    some z_36) >>= fun s_28 =>
  (M.f46 ([p0.2.1, s_6] : List (List S_api_Offer))) >>= fun v_38 =>
  (forS 0 (v_38.length : Int) (s_28 : (List (List Int))) fun i_40 s_42 =>
    (idx v_38 i_40) >>= fun v_46 =>
    (M.f110 ([p4, p5] : List (List S_api_Span))) >>= fun v_49 =>
    (idx v_49 i_40) >>= fun v_51 =>
    (idx s_42 v_46.2.1) >>= fun v_53 =>
    (idx s_42 v_46.1) >>= fun v_55 =>
    (idx s_42 v_46.2.1) >>= fun v_57 =>
    (idx v_57 v_46.1) >>= fun v_59 =>
    (idx s_42 v_46.1) >>= fun v_61 =>
    (idx v_61 v_46.2.1) >>= fun v_63 =>
    (idx v_53 v_46.1) >>= fun v_65 =>
    (set2 s_42 v_46.2.1 v_46.1 (imin v_59 v_51.2)) >>= fun z_67 =>
    (idx v_55 v_46.2.1) >>= fun v_69 =>
    (set2 z_67 v_46.1 v_46.2.1 (imin v_63 (wr (0 - v_51.1)))) >>= fun z_71 =>
    some z_71) >>= fun s_42 =>
  (forS 0 p0.1 (s_42 : (List (List Int))) fun i_73 s_75 =>
    (forS 0 p0.1 (s_75 : (List (List Int))) fun i_79 s_81 =>
      (forS 0 p0.1 (s_81 : (List (List Int))) fun i_85 s_87 =>
        (idx s_87 i_79) >>= fun v_91 =>
        (idx v_91 i_73) >>= fun v_93 =>
        (guardO (decide (v_93 < 1099511627776)) (idx s_87 i_73)) >>= fun v_95 =>
        (guardO (decide (v_93 < 1099511627776)) (idx v_95 i_85)) >>= fun v_97 =>
        (if ((decide (v_93 < 1099511627776)) && (decide (v_97 < 1099511627776))) = true then (
        (idx s_87 i_79) >>= fun v_101 =>
        (idx s_87 i_79) >>= fun v_103 =>
        (idx v_103 i_85) >>= fun v_105 =>
        (idx s_87 i_79) >>= fun v_107 =>
        (idx v_107 i_73) >>= fun v_109 =>
        (idx s_87 i_73) >>= fun v_111 =>
        (idx v_111 i_85) >>= fun v_113 =>
        (idx v_101 i_85) >>= fun v_115 =>
        (set2 s_87 i_79 i_85 (imin v_105 (wr (v_109 + v_113)))) >>= fun z_117 =>
        some z_117)
        else (
        some s_87)) >>= fun y_100 =>
        some y_100) >>= fun s_87 =>
      some s_87) >>= fun s_81 =>
    some s_81) >>= fun s_75 =>
  (forM (ρ := (S_api_Span × Bool × Int)) 0 p0.1 (() : Unit) fun i_119 s_121 =>
    (idx s_75 i_119) >>= fun v_125 =>
    (idx v_125 i_119) >>= fun v_127 =>
    (if (decide (v_127 < 0)) = true then (
    some (.leave (((0, 0) : S_api_Span), false, 31)))
    else (
    some (.again ())))) >>= fun o_122 => Out.elim o_122 (fun s_121 =>
    (idx s_75 p2) >>= fun v_129 =>
    (idx v_129 p3) >>= fun v_131 =>
    (if (decide (1099511627776 ≤ v_131)) = true then (
    some (((0, 0) : S_api_Span), false, 0))
    else (
    (idx s_75 p2) >>= fun v_133 =>
    (idx v_133 p3) >>= fun v_135 =>
    (idx s_75 p3) >>= fun v_137 =>
    (idx v_137 p2) >>= fun v_139 =>
    some ((((wr (0 - v_135)), v_139) : S_api_Span), true, 0)))) (fun p_141 =>
    some (p_141.1, p_141.2.1, p_141.2.2))))))

/-- waterhour/keeper.everything -/
def f71 (p0 : S_api_Market) : Option Int :=
  (shl 1 (p0.2.2.length : Int)) >>= fun v_1 =>
  some (wr (v_1 - 1))

end Go.Proofs.Ytkbilbeaedocjaa.M
