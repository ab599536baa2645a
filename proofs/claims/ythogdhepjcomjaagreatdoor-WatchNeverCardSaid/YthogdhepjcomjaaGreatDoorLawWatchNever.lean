/-
  What is proved: for all rosters, gates and lists the model of WatchNever returns true.
-/
import Derived.Test.YthogdhepjcomjaaGreatDoorLawWatchBare
import Derived.Test.YthogdhepjcomjaaGreatDoorModelN
namespace Go.Proofs.YthogdhepjcomjaaGreatDoor
open Go Go.Proofs.YthogdhepjcomjaaGreatDoor.Wh

section
variable {r : S_api_Roster} (h : Vd r) {g : Int} {s : List Int}
include h
/-- Behind turns of which none guards, the last one has ended. -/
theorem way_ended (hd : ∀ a b, a < r.2.2.2.1.length → b < r.2.2.2.1.length → s.getD a 0 - s.getD b 0 ≤ ahd r a b) (h0 : r.2.1 ≤ s.getD 0 0) {l : List Int} {x : Int} (hw : Way r g l x) (hn : ∀ y ∈ l, guB (tn r y) s = false) : (tn r x).2.2.2.2.1 ≤ s.getD (tn r x).2.2.2.1.toNat 0 := by
  have hn1 := h.n1
  induction hw with
  | @one x a b d =>
    have tx := turnB_iff.1 (h.turn a)
    have := hd 0 (tn r x).2.1.toNat (by omega) (by omega)
    unfold bgI at d
    rcases guB_false.1 (hn x (List.mem_cons_self ..)) with q | q
    · omega
    · exact q
  | @snoc l x y hw hi hf hne ih =>
    have tx := turnB_iff.1 (h.turn hw.inRx)
    have ty := turnB_iff.1 (h.turn hi)
    have h1 := ih fun z hz => hn z (List.mem_append_left _ hz)
    have h2 := (foB_iff.1 hf).2.2
    have h3 := hd (tn r x).2.2.2.1.toNat (tn r y).2.1.toNat (by omega) (by omega)
    unfold meI at h2
    rcases guB_false.1 (hn y (by simp)) with q | q
    · omega
    · exact q
/-- At each moment within the watch some turn of a plan guards. -/
theorem plan_guards (hd : ∀ a b, a < r.2.2.2.1.length → b < r.2.2.2.1.length → s.getD a 0 - s.getD b 0 ≤ ahd r a b) (h0 : r.2.1 ≤ s.getD 0 0) (h1 : s.getD 0 0 < r.2.2.1) {l : List Int} (hp : planB r g l = true) : ∃ x ∈ l, guB (tn r x) s = true := by
  have hn1 := h.n1
  obtain ⟨z, hw, he⟩ := planB_iff.1 hp
  refine Classical.byContradiction fun hc => ?_
  have hn : ∀ y ∈ l, guB (tn r y) s = false := fun y hy => by
    cases q : guB (tn r y) s with
    | false => rfl
    | true => exact absurd ⟨y, hy, q⟩ hc
  have tz := turnB_iff.1 (h.turn hw.inRx)
  have h2 := way_ended h hd h0 hw hn
  have h3 := hd (tn r z).2.2.2.1.toNat 0 (by omega) (by omega)
  unfold enI at he
  omega
theorem bare_plan {l : List Int} (hg0 : 0 ≤ g) (hg1 : g < r.1) (hp : planB r g l = true) (h8 : l.length ≤ 8) : barE r g l.reverse = 0 ∧ ¬ ∃ s, Mom r l.reverse (lo0 r) (hi0 r) s := by
  obtain ⟨z, hw, he⟩ := planB_iff.1 hp
  have hn0 : 0 < r.2.2.2.1.length := h.n1
  constructor
  · unfold barE
    have e : (l.reverse.all (gtB r g) && difB l.reverse) = true := by
      rw [Bool.and_eq_true, List.all_eq_true, difB_iff]
      refine ⟨fun x hx => ?_, by unfold List.Nodup; rw [List.pairwise_reverse]; exact hw.nodup.imp fun h e => h e.symm⟩
      have := hw.all x (List.mem_reverse.1 hx)
      unfold gtB
      rw [this.1, this.2]; simp
    rw [gateE_of h hg0 hg1, if_pos rfl, if_pos e, if_neg (by rw [List.length_reverse]; omega)]
  · rintro ⟨s, hs⟩
    have b0 := hs.bnd 0 hn0
    rw [lo0_get h hn0, hi0_get h hn0, if_pos rfl, if_pos rfl] at b0
    obtain ⟨x, hx, hg⟩ := plan_guards h hs.dif b0.1 (by omega) hp
    have := hs.gu x (List.mem_reverse.2 hx)
    rw [hg] at this; cases this
end
theorem law_WatchNever (p0 : S_api_Roster) (p1 : Int) (p2 p3 : List Int) : ∃ fuel, M.f8 fuel p0 p1 p2 p3 = some true := by
  refine ⟨wayB p0.2.2.2.2.length + 1000, ?_⟩
  unfold M.f8
  rw [sane_at (by omega), f33_eq (by omega)]
  simp only [Option.bind_eq_bind, Option.bind_some, Bool.not_true, Bool.false_eq_true, if_false, f17_eq (show [p2, p3].length ≤ 4294967296 by simp)]
  cases hv : vldB p0 with
  | false => rfl
  | true =>
    have h : Vd p0 := ⟨hv⟩
    simp only [Bool.not_true, Bool.not_false, guardO_t, Option.bind_some, Bool.false_or]
    split
    · rfl
    rename_i hc
    simp only [Bool.or_eq_true, Bool.not_eq_true', decide_eq_true_eq] at hc
    have hfew : fewB p0 [p2, p3] = true := by
      cases q : fewB p0 [p2, p3] with
      | true => rfl
      | false => exact absurd (.inl (.inl q)) hc
    have hl : p2.length ≤ 100 ∧ p3.length ≤ 100 := by
      unfold fewB at hfew
      simp only [List.all_cons, List.all_nil, Bool.and_true, Bool.and_eq_true, decide_eq_true_eq] at hfew
      omega
    have hg0 : 0 ≤ p1 := by omega
    have hg1 : p1 < p0.1 := by omega
    have h24 := h.len
    have hfu : wayB p0.2.2.2.2.length < wayB p0.2.2.2.2.length + 1000 := by omega
    have hf1 : 200 < wayB p0.2.2.2.2.length + 1000 := by omega
    generalize wayB p0.2.2.2.2.length + 1000 = fuel at *
    obtain ⟨a, e1, ha⟩ := f34_so h hg0 hg1 hfu
    have hal := ha.len h
    obtain ⟨b1, b2⟩ := ha.plan
    simp only [e1, Option.bind_some, bne_self_eq_false, Bool.false_eq_true, if_false]
    refine bnd (forM_all (ρ := Bool) [p2, a] (by simp) (fun _ => true) false _ fun i x hx => ?_) ?_
    · have hxl : x.length ≤ 100 ∧ (x = a → planB p0 p1 x = false → x = []) := by
        have := List.mem_of_getElem? hx
        rw [List.mem_cons, List.mem_singleton] at this
        refine ⟨by rcases this with e | e <;> subst e <;> omega, fun e q => ?_⟩
        subst e
        by_cases q2 : x = []
        · exact q2
        · rw [b2 q2] at q; cases q
      simp only [idx_nat, hx, Option.bind_some, f35_eq hxl.1 (show 100 < fuel by omega), chkP_zero h hg0 hg1, if_true]
      cases hp : planB p0 p1 x with
      | false =>
        simp only [Bool.false_eq_true, if_false]
        by_cases q : ((x.length : Int) == (a.length : Int) && !a.isEmpty) = true
        · have q1 : (x == a) = false := by
            rw [beq_eq_false_iff_ne]
            intro e
            have := hxl.2 e hp
            subst e
            rw [this] at q
            simp at q
          simp only [q, guardO, f24_eq (show x.length ≤ 4294967296 by omega), Option.bind_some, q1, Bool.and_false, Bool.false_eq_true, if_false]
          rfl
        · rw [Bool.not_eq_true] at q
          simp only [q, guardO, Option.bind_some, Bool.false_and, Bool.false_eq_true, if_false]
          rfl
      | true =>
        obtain ⟨z, hw, he⟩ := planB_iff.1 hp
        simp only [if_true, bne_self_eq_false, Bool.false_eq_true, if_false, f40_eq (show p3.length ≤ 4294967296 by omega), Option.bind_some]
        -- who guards
        have who : ∀ c : Bool, ((whoV p0 p3).2 == 0 && decide (0 < (p3.length : Int)) && decide (p0.2.1 ≤ p3.getD 0 0) && decide (p3.getD 0 0 < p0.2.2.1)) = true → (x.any fun y => (whoV p0 p3).1.contains y) = true := by
          intro _ hq
          simp only [Bool.and_eq_true, decide_eq_true_eq, beq_iff_eq] at hq
          obtain ⟨⟨⟨q1, q2⟩, q3⟩, q4⟩ := hq
          have hz : shoE p0 p3 = 0 := by
            unfold whoV at q1
            rw [if_pos h.h] at q1
            split at q1
            · rename_i e; exact e
            · exact q1
          obtain ⟨z1, z2, z3⟩ := shoE_zero hz
          have hd : ∀ a b, a < p0.2.2.2.1.length → b < p0.2.2.2.1.length → p3.getD a 0 - p3.getD b 0 ≤ ahd p0 a b := by
            unfold momB at z3
            simp only [List.all_eq_true, List.mem_range, decide_eq_true_eq] at z3
            exact fun a b ha hb => z3 a ha b hb
          obtain ⟨y, hy, hgy⟩ := plan_guards h hd q3 q4 hp
          rw [List.any_eq_true]
          refine ⟨y, hy, ?_⟩
          have hyR := inR_iff.1 (hw.all y hy).1
          unfold whoV
          rw [if_pos h.h, if_pos hz, List.contains_iff_mem, selI_mem]
          exact ⟨hyR.1, hyR.2, hgy⟩
        have hwl : (whoV p0 p3).1.length ≤ 4294967296 := by
          unfold whoV
          rw [if_pos h.h]
          split
          · exact Nat.le_trans (selI_len (fun j => guB (tnJ p0 j) p3) p0.2.2.2.2.length) (by omega)
          · exact Nat.zero_le _
        have e42 : M.f42 x (fun x0 => M.f43 x0 (whoV p0 p3).1) = some (x.any fun y => (whoV p0 p3).1.contains y) := f42_eq _ (by omega) fun y _ => by
          unfold M.f43
          rw [f44_eq hwl]
          rfl
        have rest : (if decide (8 < (x.length : Int)) = true then some (Out.again (σ := Unit) (ρ := Bool) ()) else (M.f45 x).bind fun m_29 => (M.f46 m_29).bind fun z_33 => (M.f29 fuel p0 p1 z_33).bind fun v_35 => if (((v_35.2.2 != 0) || v_35.2.1) || ((v_35.1.length : Int) != 0)) = true then some (.leave false) else some (.again ())) = some (.again ()) := by
          by_cases q8 : 8 < (x.length : Int)
          · rw [if_pos (by rw [decide_eq_true_eq]; exact q8)]
          · rw [if_neg (by rw [decide_eq_true_eq]; exact q8), f45_id (by omega)]
            obtain ⟨k1, k2⟩ := bare_plan h hg0 hg1 hp (by omega)
            have e46 : M.f46 x = some x.reverse := by unfold M.f46; rw [if_pos (by omega)]
            rcases f29_so (r := p0) (g := p1) (l := x.reverse) (by rw [List.length_reverse]; omega) hf1 with ⟨q, _⟩ | ⟨_, v, e29, hv⟩
            · exact absurd k1 q
            · rcases hv with ⟨_, hm⟩ | ⟨t, _⟩
              · exact absurd ⟨_, hm⟩ k2
              · simp only [Option.bind_some, e46, e29, t]
                rfl
        rw [rest]
        have hx0 : ∀ c : Bool, c = true → 0 < p3.length → guardO c (idx p3 0) = some (p3.getD 0 0) := fun c hc hl => by rw [hc]; exact idx_getD (j := 0) hl
        cases c1 : ((whoV p0 p3).2 == 0 && decide (0 < (p3.length : Int))) with
        | false => simp [guardO]
        | true =>
          have hpl : 0 < p3.length := by
            rw [Bool.and_eq_true, decide_eq_true_eq] at c1
            omega
          have i0 : idx p3 0 = some (p3.getD 0 0) := idx_getD (j := 0) hpl
          simp only [guardO, i0, Option.bind_some, Bool.true_and]
          cases c2 : decide (p0.2.1 ≤ p3.getD 0 0) with
          | false => simp [guardO]
          | true =>
            simp only [guardO, Option.bind_some, Bool.true_and]
            cases c3 : decide (p3.getD 0 0 < p0.2.2.1) with
            | false => simp [guardO]
            | true =>
              have := who true (by rw [c1, c2, c3]; rfl)
              simp only [guardO, e42, this, Option.bind_some, Bool.not_true, Bool.and_false, Bool.false_eq_true, if_false]
    · simp only [List.all_eq_true, implies_true, if_true]
      rfl
end Go.Proofs.YthogdhepjcomjaaGreatDoor
