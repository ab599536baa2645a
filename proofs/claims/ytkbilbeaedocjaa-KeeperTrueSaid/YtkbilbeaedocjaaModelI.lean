/-
  Models of Go functions, written by program; nothing is claimed here.
-/
import Derived.Test.YtkbilbeaedocjaaModelE
import Derived.Test.YtkbilbeaedocjaaModelS
namespace Go.Proofs.Ytkbilbeaedocjaa.M
open Go Go.Proofs.Ytkbilbeaedocjaa Go.Proofs.Ytkbilbeaedocjaa.Wh

/-- waterhour/waterhourref08.Known -/
def f62 (fuel : Nat) (p0 : S_api_Market) (p1 : List Int) (p2 : Int) (p3 : Int) (p4 : List S_api_Span) (p5 : List S_api_Span) : Option (S_api_Span × Bool × Int) :=
  (M.f72 fuel p0 p1 0 ([p2, p3] : List Int)) >>= fun v_2 =>
  (if (v_2 != 0) = true then (
  some (((0, 0) : S_api_Span), false, v_2))
  else (
  (M.f102 fuel p0 p1) >>= fun v_4 =>
  (if (((p4.length : Int) != (p0.2.1.length : Int)) || ((p5.length : Int) != (p1.length : Int))) = true then (
  some (((0, 0) : S_api_Span), false, 1))
  else (
  (app ([] : List S_api_Span) p4) >>= fun z_6 =>
  (app z_6 p5) >>= fun z_9 =>
  (loopM (ρ := (Unit ⊕ (S_api_Span × Bool × Int))) (fun s_12 : Int =>
    (if (decide (s_12 < (v_4.length : Int))) = true then (
    (idx z_9 s_12) >>= fun v_16 =>
    (M.f80 v_16.1 (-1073741824) 1073741824) >>= fun v_18 =>
    (guardO (!(!v_18)) (idx z_9 s_12)) >>= fun v_20 =>
    (guardO (!(!v_18)) (idx z_9 s_12)) >>= fun v_22 =>
    (guardO (!(!v_18)) (idx v_4 s_12)) >>= fun v_24 =>
    (if ((!v_18) || (v_20.2 != (wr (v_22.1 + v_24.2.2.2)))) = true then (
    some (.leave (.inr (((0, 0) : S_api_Span), false, 1))))
    else (
    some (.again (wr (s_12 + 1))))))
    else (
    some (.leave (.inl ()))))) fuel (0 : Int)) >>= fun o_13 =>
  (fun x_ => sumE x_ (fun p_481 =>
    (loopM (ρ := (List (List Int))) (fun s_482 : Int × (List (List Int)) =>
      (if (decide (s_482.1 < p0.1)) = true then (
      (loopM (ρ := (List Int)) (fun s_489 : Int × (List Int) =>
        (if (decide (s_489.1 < p0.1)) = true then (
        (app s_489.2 ([1099511627776] : List Int)) >>= fun z_494 =>
        some (.again ((wr (s_489.1 + 1)), z_494)))
        else (
        some (.leave s_489.2)))) fuel ((0, ([] : List Int)) : Int × (List Int))) >>= fun o_490 =>
      (fun p_507 =>
        (app s_482.2 [p_507]) >>= fun z_508 =>
        (idx z_508 s_482.1) >>= fun v_512 =>
        (idx v_512 s_482.1) >>= fun v_514 =>
        (set2 z_508 s_482.1 s_482.1 0) >>= fun z_516 =>
        some (.again ((wr (s_482.1 + 1)), z_516))) o_490)
      else (
      some (.leave s_482.2)))) fuel ((0, ([] : List (List Int))) : Int × (List (List Int)))) >>= fun o_483 =>
    (fun p_727 =>
      (loopM (ρ := (List (List Int))) (fun s_728 : Int × (List (List Int)) =>
        (if (decide (s_728.1 < (v_4.length : Int))) = true then (
        (idx v_4 s_728.1) >>= fun v_732 =>
        (idx v_4 s_728.1) >>= fun v_734 =>
        (idx s_728.2 v_732.1) >>= fun v_736 =>
        (idx s_728.2 v_732.1) >>= fun v_738 =>
        (idx v_738 v_734.2.1) >>= fun v_740 =>
        (idx z_9 s_728.1) >>= fun v_742 =>
        (idx v_736 v_734.2.1) >>= fun v_744 =>
        (set2 s_728.2 v_732.1 v_734.2.1 (imin v_740 v_742.2)) >>= fun z_746 =>
        (idx z_746 v_734.2.1) >>= fun v_748 =>
        (idx z_746 v_734.2.1) >>= fun v_750 =>
        (idx v_750 v_732.1) >>= fun v_752 =>
        (idx z_9 s_728.1) >>= fun v_754 =>
        (idx v_748 v_732.1) >>= fun v_756 =>
        (set2 z_746 v_734.2.1 v_732.1 (imin v_752 (wr (0 - v_754.1)))) >>= fun z_758 =>
        some (.again ((wr (s_728.1 + 1)), z_758)))
        else (
        some (.leave s_728.2)))) fuel ((0, p_727) : Int × (List (List Int)))) >>= fun o_729 =>
      (fun p_848 =>
        (loopM (ρ := ((List (List Int)) ⊕ (S_api_Span × Bool × Int))) (fun s_849 : Int × (List (List Int)) =>
          (if (decide (s_849.1 < p0.1)) = true then (
          (loopM (ρ := (List (List Int))) (fun s_853 : Int × (List (List Int)) =>
            (if (decide (s_853.1 < p0.1)) = true then (
            (loopM (ρ := (List (List Int))) (fun s_857 : Int × (List (List Int)) =>
              (if (decide (s_857.1 < p0.1)) = true then (
              (idx s_857.2 s_853.1) >>= fun v_861 =>
              (idx v_861 s_849.1) >>= fun v_863 =>
              (guardO (decide (v_863 < 1099511627776)) (idx s_857.2 s_849.1)) >>= fun v_865 =>
              (guardO (decide (v_863 < 1099511627776)) (idx v_865 s_857.1)) >>= fun v_867 =>
              (if ((decide (v_863 < 1099511627776)) && (decide (v_867 < 1099511627776))) = true then (
              (idx s_857.2 s_853.1) >>= fun v_871 =>
              (idx s_857.2 s_853.1) >>= fun v_873 =>
              (idx v_873 s_857.1) >>= fun v_875 =>
              (idx s_857.2 s_853.1) >>= fun v_877 =>
              (idx v_877 s_849.1) >>= fun v_879 =>
              (idx s_857.2 s_849.1) >>= fun v_881 =>
              (idx v_881 s_857.1) >>= fun v_883 =>
              (idx v_871 s_857.1) >>= fun v_885 =>
              (set2 s_857.2 s_853.1 s_857.1 (imin v_875 (wr (v_879 + v_883)))) >>= fun z_887 =>
              some z_887)
              else (
              some s_857.2)) >>= fun y_870 =>
              some (.again ((wr (s_857.1 + 1)), y_870)))
              else (
              some (.leave s_857.2)))) fuel ((0, s_853.2) : Int × (List (List Int)))) >>= fun o_858 =>
            (fun p_889 =>
              some (.again ((wr (s_853.1 + 1)), p_889))) o_858)
            else (
            some (.leave s_853.2)))) fuel ((0, s_849.2) : Int × (List (List Int)))) >>= fun o_854 =>
          (fun p_900 =>
            (loopM (ρ := (Unit ⊕ (S_api_Span × Bool × Int))) (fun s_901 : Int =>
              (if (decide (s_901 < p0.1)) = true then (
              (idx p_900 s_901) >>= fun v_905 =>
              (idx v_905 s_901) >>= fun v_907 =>
              (if (decide (v_907 < 0)) = true then (
              some (.leave (.inr (((0, 0) : S_api_Span), false, 31))))
              else (
              some (.again (wr (s_901 + 1))))))
              else (
              some (.leave (.inl ()))))) fuel (0 : Int)) >>= fun o_902 =>
            (fun x_ => sumE x_ (fun p_909 =>
              some (.again ((wr (s_849.1 + 1)), p_900))) (fun p_910 =>
              some (.leave (.inr (p_910.1, p_910.2.1, p_910.2.2))))) o_902) o_854)
          else (
          some (.leave (.inl s_849.2))))) fuel ((0, p_848) : Int × (List (List Int)))) >>= fun o_850 =>
        (fun x_ => sumE x_ (fun p_923 =>
          (idx p_923 p2) >>= fun v_924 =>
          (idx v_924 p3) >>= fun v_926 =>
          (if (decide (1099511627776 ≤ v_926)) = true then (
          some (((0, 0) : S_api_Span), false, 0))
          else (
          (idx p_923 p3) >>= fun v_928 =>
          (idx v_928 p2) >>= fun v_930 =>
          (idx p_923 p2) >>= fun v_932 =>
          (idx v_932 p3) >>= fun v_934 =>
          some ((((wr (0 - v_930)), v_934) : S_api_Span), true, 0)))) (fun p_936 =>
          some (p_936.1, p_936.2.1, p_936.2.2))) o_850) o_729) o_483) (fun p_937 =>
    some (p_937.1, p_937.2.1, p_937.2.2))) o_13))))

/-- waterhour/waterhourlaw08.KeeperShown -/
def f13 (fuel : Nat) (p0 : S_api_Market) (p1 : List Int) (p2 : Int) (p3 : Int) (p4 : List S_api_Span) (p5 : List S_api_Span) : Option Bool :=
  (M.f16 fuel ) >>= fun v_1 =>
  (if (!v_1) = true then (
  some false)
  else (
  (M.f17 p0) >>= fun v_3 =>
  (guardO (!(!v_3)) (M.f55 ([p1] : List (List Int)))) >>= fun v_5 =>
  (if ((((!v_3) || (!v_5)) || (decide (100 < (p4.length : Int)))) || (decide (100 < (p5.length : Int)))) = true then (
  some true)
  else (
  (M.f61 p0 p1 p2 p3 p4 p5) >>= fun v_7 =>
  (M.f62 fuel p0 p1 p2 p3 p4 p5) >>= fun v_9 =>
  (if (((v_7.1 != v_9.1) || (v_7.2.1 != v_9.2.1)) || (v_7.2.2 != v_9.2.2)) = true then (
  some false)
  else (
  (M.f63 p0 p1 p2 p3) >>= fun v_11 =>
  (M.f56 fuel p0 p1 p2 p3) >>= fun v_13 =>
  (if (v_13.2.2 != 0) = true then (
  some (((v_11.2.2 == v_13.2.2) && ((v_11.1.length : Int) == 0)) && ((v_11.2.1.length : Int) == 0)))
  else (
  (if (!v_13.2.1) = true then (
  some (((v_11.2.2 == 4) && ((v_11.1.length : Int) == 0)) && ((v_11.2.1.length : Int) == 0)))
  else (
  (if (((v_11.2.2 != 0) || (decide (100 < (v_11.1.length : Int)))) || (decide (100 < (v_11.2.1.length : Int)))) = true then (
  some false)
  else (
  (M.f62 fuel p0 p1 p2 p3 v_11.1 v_11.2.1) >>= fun v_15 =>
  some (((v_15.2.2 == 0) && v_15.2.1) && ((wr (v_15.1.2 - v_15.1.1)) == v_13.1))))))))))))))

end Go.Proofs.Ytkbilbeaedocjaa.M
