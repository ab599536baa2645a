/-
  What is proved: for all rosters, gates and numbers the model of WatchMoved returns true.
-/
import Derived.Test.YthogdhepjcomjaaGreatDoorWatQ
import Derived.Test.YthogdhepjcomjaaGreatDoorModelL
namespace Go.Proofs.YthogdhepjcomjaaGreatDoor
open Go Go.Proofs.YthogdhepjcomjaaGreatDoor.Wh

/-- Rosters of which all questions are answered alike. -/
structure Same (r m : S_api_Roster) : Prop where
  len : m.2.2.2.2.length = r.2.2.2.2.length
  gate : ∀ x, inR r x = true → (tn m x).1 = (tn r x).1
  bg : ∀ x, inR r x = true → bgI m x = bgI r x
  en : ∀ x, inR r x = true → enI m x = enI r x
  me : ∀ x y, inR r x = true → inR r y = true → meI m x y = meI r x y
  cs : ∀ x, cs m x = cs r x
namespace Same
variable {r m : S_api_Roster} (s : Same r m)
include s
theorem inR (x : Int) : Go.Proofs.YthogdhepjcomjaaGreatDoor.inR m x = Go.Proofs.YthogdhepjcomjaaGreatDoor.inR r x := by unfold Go.Proofs.YthogdhepjcomjaaGreatDoor.inR; rw [s.len]
theorem symm : Same m r := ⟨s.len.symm, fun x hx => (s.gate x (by rw [← s.inR]; exact hx)).symm, fun x hx => (s.bg x (by rw [← s.inR]; exact hx)).symm, fun x hx => (s.en x (by rw [← s.inR]; exact hx)).symm, fun x y hx hy => (s.me x y (by rw [← s.inR]; exact hx) (by rw [← s.inR]; exact hy)).symm, fun x => (s.cs x).symm⟩
theorem fo {x y : Int} (hx : Go.Proofs.YthogdhepjcomjaaGreatDoor.inR r x = true) (hy : Go.Proofs.YthogdhepjcomjaaGreatDoor.inR r y = true) : foB m x y = foB r x y := by
  unfold foB
  rw [s.gate x hx, s.gate y hy, s.me x y hx hy]
theorem way {g : Int} {l : List Int} {x : Int} (h : Way r g l x) : Way m g l x := by
  induction h with
  | one a b d => exact .one (by rw [s.inR]; exact a) (by rw [s.gate _ a]; exact b) (by rw [s.bg _ a]; exact d)
  | snoc hw hi hf hn ih => exact .snoc ih (by rw [s.inR]; exact hi) (by rw [s.fo hw.inRx hi]; exact hf) hn
theorem rch {g w x : Int} (h : Rch r g w x) : Rch m g w x := by
  induction h with
  | one a b d e => exact .one (by rw [s.inR]; exact a) (by rw [s.gate _ a]; exact b) (by rw [s.bg _ a]; exact d) e
  | step hr hi hf hw ih => exact .step ih (by rw [s.inR]; exact hi) (by rw [s.fo hr.inRx hi]; exact hf) hw
theorem csum : csum m = csum r := by
  funext l
  induction l with
  | nil => rfl
  | cons a l ih => unfold Go.Proofs.YthogdhepjcomjaaGreatDoor.csum; rw [s.cs, ih]
theorem cB : cB m = cB r := by unfold Go.Proofs.YthogdhepjcomjaaGreatDoor.cB; rw [s.csum]
theorem best {g : Int} {c : List Int → List Int → Int} {l : List Int} (h : IsBest r g c l) : IsBest m g c l := by
  rcases h with ⟨e, h⟩ | ⟨z, h1, h2, h3⟩
  · refine .inl ⟨e, fun l' z hw he => ?_⟩
    have hw' := s.symm.way hw
    exact h _ _ hw' (by rw [← s.en _ hw'.inRx]; exact he)
  · refine .inr ⟨z, s.way h1, by rw [s.en _ h1.inRx]; exact h2, fun l' z' hw he => ?_⟩
    have hw' := s.symm.way hw
    exact h3 _ _ hw' (by rw [← s.en _ hw'.inRx]; exact he)
theorem rchL {g w : Int} : rchL m g w = rchL r g w := by
  unfold Go.Proofs.YthogdhepjcomjaaGreatDoor.rchL
  rw [s.len]
  refine selI_congr fun j _ => ?_
  have : Rch m g w (j : Int) ↔ Rch r g w (j : Int) := ⟨s.symm.rch, s.rch⟩
  simp [this]
theorem gap {g : Int} (h0 : gateE r g = 0) (h1 : gateE m g = 0) : gapV m g = gapV r g := by
  unfold gapV
  rw [if_pos h0, if_pos h1, s.rchL]
  have e : (Go.Proofs.YthogdhepjcomjaaGreatDoor.rchL r g (-1)).any (fun x => decide (enI m x ≤ 0)) = (Go.Proofs.YthogdhepjcomjaaGreatDoor.rchL r g (-1)).any (fun x => decide (enI r x ≤ 0)) := by
    apply Bool.eq_iff_iff.2
    simp only [List.any_eq_true, decide_eq_true_eq]
    constructor
    · rintro ⟨x, a, b⟩; exact ⟨x, a, by rw [← s.en x (rchL_mem.1 a).inRx]; exact b⟩
    · rintro ⟨x, a, b⟩; exact ⟨x, a, by rw [s.en x (rchL_mem.1 a).inRx]; exact b⟩
  rw [e]
end Same
theorem Least.uniq {r : S_api_Roster} {g : Int} {c : List Int → List Int → Int} (ho : Ord c) {O O' : Int → List Int} (h : Least r g c O) (h' : Least r g c O') (x : Int) : O x = O' x := by
  by_cases e : O x = []
  · rw [e]
    by_cases e' : O' x = []
    · rw [e']
    · exact absurd e (h.le _ _ (h'.way x e')).1
  · have h1 := h'.le _ _ (h.way x e)
    exact ho.anti (h.le _ _ (h'.way x h1.1)).2 h1.2
theorem Same.least {r m : S_api_Roster} (s : Same r m) {g : Int} {c : List Int → List Int → Int} {O : Int → List Int} (h : Least r g c O) : Least m g c O :=
  ⟨fun i hi => s.way (h.way i hi), fun l x hw => h.le l x (s.symm.way hw)⟩
theorem Same.prices {r m : S_api_Roster} (s : Same r m) {g : Int} {best : List Int} {O : Int → List Int} : prL m g best O = prL r g best O := by
  unfold prL
  rw [s.len]
  apply List.map_congr_left
  intro j hj
  have hx : Go.Proofs.YthogdhepjcomjaaGreatDoor.inR r (j : Int) = true := inR_iff.2 ⟨by omega, by have := List.mem_range.1 hj; omega⟩
  unfold prV
  have e : (tnJ m j).1 = (tnJ r j).1 := s.gate (j : Int) hx
  rw [e, s.csum]

/-! ### the moved roster -/
def asI (s o x : Int) : Int := if x = s then o else if x = o then s else x
theorem f41_eq (x s o : Int) : M.f41 x s o = some (asI s o x) := by
  unfold M.f41 asI
  by_cases h1 : x = s
  · simp [h1]
  · by_cases h2 : x = o
    · subst h2; simp [h1]
    · simp [h1, h2]
theorem asI_rng {s o x n : Int} (hs : 1 ≤ s ∧ s < n) (ho : 1 ≤ o ∧ o < n) (hx : 0 ≤ x ∧ x < n) : 0 ≤ asI s o x ∧ asI s o x < n := by
  unfold asI; split
  · omega
  · split <;> omega
theorem asI_inv {s o x : Int} : asI s o (asI s o x) = x := by
  unfold asI
  by_cases h1 : x = s
  · by_cases h2 : o = s <;> simp [h1, h2]
  · by_cases h2 : x = o
    · simp [h1, h2]
    · simp [h1, h2]
def mvT (s o b : Int) (t : S_api_Turn) : S_api_Turn := (t.1, asI s o t.2.1, wr (t.2.2.1 + b), asI s o t.2.2.2.1, wr (t.2.2.2.2.1 + b), t.2.2.2.2.2)
def mvA (r : S_api_Roster) (s o : Int) : List (List Int) := (List.range r.2.2.2.1.length).map fun a : Nat => (List.range r.2.2.2.1.length).map fun b : Nat => ahd r (asI s o (a : Int)).toNat (asI s o (b : Int)).toNat
def mvR (r : S_api_Roster) (s o b : Int) : S_api_Roster := (r.1, wr (r.2.1 + b), wr (r.2.2.1 + b), mvA r s o, r.2.2.2.2.map (mvT s o b))
section
variable {r : S_api_Roster} (h : Vd r) {s o b : Int} (hs : 1 ≤ s ∧ s < (r.2.2.2.1.length : Int)) (ho : 1 ≤ o ∧ o < (r.2.2.2.1.length : Int)) (hb : -16777216 ≤ b ∧ b ≤ 16777216)
include h hs ho hb
theorem mv_same : Same r (mvR r s o b) := by
  have hlen : (mvR r s o b).2.2.2.2.length = r.2.2.2.2.length := by unfold mvR; simp
  have htn : ∀ x, inR r x = true → tn (mvR r s o b) x = mvT s o b (tn r x) := fun x hx => by
    have hx := inR_iff.1 hx
    unfold tn mvR
    simp only
    rw [List.getD_eq_getElem?_getD, List.getD_eq_getElem?_getD, List.getElem?_map, List.getElem?_eq_getElem (by omega)]
    rfl
  have hah : ∀ x y : Int, 0 ≤ x ∧ x < (r.2.2.2.1.length : Int) → 0 ≤ y ∧ y < (r.2.2.2.1.length : Int) → ahd (mvR r s o b) (asI s o x).toNat (asI s o y).toNat = ahd r x.toNat y.toNat := fun x y hx hy => by
    have h1 := asI_rng hs ho hx
    have h2 := asI_rng hs ho hy
    have e1 : (((asI s o x).toNat : Nat) : Int) = asI s o x := by omega
    have e2 : (((asI s o y).toNat : Nat) : Int) = asI s o y := by omega
    show ((mvA r s o).getD (asI s o x).toNat []).getD (asI s o y).toNat 0 = _
    unfold mvA
    rw [List.getD_eq_getElem?_getD, List.getD_eq_getElem?_getD, List.getElem?_map, List.getElem?_range (by omega)]
    simp only [Option.map_some, Option.getD_some]
    rw [List.getElem?_map, List.getElem?_range (by omega)]
    simp only [Option.map_some, Option.getD_some]
    rw [e1, e2, asI_inv, asI_inv]
  have h00 : asI s o 0 = 0 := by unfold asI; rw [if_neg (by omega), if_neg (by omega)]
  have ht := h.time
  have eF : (mvR r s o b).2.1 = r.2.1 + b := wr_id (by omega) (by omega)
  have eT : (mvR r s o b).2.2.1 = r.2.2.1 + b := wr_id (by omega) (by omega)
  have hn1 := h.n1
  refine ⟨hlen, fun x hx => by rw [htn x hx]; rfl, fun x hx => ?_, fun x hx => ?_, fun x y hx hy => ?_, fun x => ?_⟩
  · have tx := turnB_iff.1 (h.turn hx)
    unfold bgI
    rw [htn x hx, eF]
    have e1 : (mvT s o b (tn r x)).2.2.1 = (tn r x).2.2.1 + b := wr_id (by omega) (by omega)
    have e2 := hah 0 (tn r x).2.1 (by omega) (by omega)
    rw [h00] at e2
    rw [e1]
    show _ + ahd (mvR r s o b) 0 (asI s o (tn r x).2.1).toNat = _
    rw [show (0 : Nat) = (0 : Int).toNat from rfl, e2]
    omega
  · have tx := turnB_iff.1 (h.turn hx)
    unfold enI
    rw [htn x hx, eT]
    have e1 : (mvT s o b (tn r x)).2.2.2.2.1 = (tn r x).2.2.2.2.1 + b := wr_id (by omega) (by omega)
    have e2 := hah (tn r x).2.2.2.1 0 (by omega) (by omega)
    rw [h00] at e2
    rw [e1]
    show _ + ahd (mvR r s o b) (asI s o (tn r x).2.2.2.1).toNat 0 = _
    rw [show (0 : Nat) = (0 : Int).toNat from rfl, e2]
    omega
  · have tx := turnB_iff.1 (h.turn hx)
    have ty := turnB_iff.1 (h.turn hy)
    unfold meI
    rw [htn x hx, htn y hy]
    have e1 : (mvT s o b (tn r x)).2.2.2.2.1 = (tn r x).2.2.2.2.1 + b := wr_id (by omega) (by omega)
    have e3 : (mvT s o b (tn r y)).2.2.1 = (tn r y).2.2.1 + b := wr_id (by omega) (by omega)
    have e2 := hah (tn r x).2.2.2.1 (tn r y).2.1 (by omega) (by omega)
    rw [e1, e3]
    show _ + ahd (mvR r s o b) (asI s o (tn r x).2.2.2.1).toNat (asI s o (tn r y).2.1).toNat = _
    rw [e2]
    omega
  · by_cases hx : x.toNat < r.2.2.2.2.length
    · unfold cs tn mvR
      simp only
      rw [List.getD_eq_getElem?_getD, List.getD_eq_getElem?_getD, List.getElem?_map, List.getElem?_eq_getElem hx]
      rfl
    · unfold cs tn
      rw [List.getD_eq_getElem?_getD, List.getD_eq_getElem?_getD, List.getElem?_eq_none (by omega), List.getElem?_eq_none (by omega)]
end
theorem law_WatchMoved (p0 : S_api_Roster) (p1 p2 p3 p4 : Int) : ∃ fuel, M.f7 fuel p0 p1 p2 p3 p4 = some true := by
  refine ⟨wayB p0.2.2.2.2.length + 1000, ?_⟩
  unfold M.f7
  rw [sane_at (by omega), f33_eq (by omega)]
  simp only [Option.bind_eq_bind, Option.bind_some, Bool.not_true, Bool.false_eq_true, if_false]
  cases hv : vldB p0 with
  | false => rfl
  | true =>
    have h : Vd p0 := ⟨hv⟩
    simp only [Bool.not_true, Bool.false_or]
    split
    · rfl
    rename_i hc
    simp only [Bool.or_eq_true, decide_eq_true_eq] at hc
    have hg0 : 0 ≤ p1 := by omega
    have hg1 : p1 < p0.1 := by omega
    have hs : 1 ≤ p3 ∧ p3 < (p0.2.2.2.1.length : Int) := by omega
    have ho : 1 ≤ p4 ∧ p4 < (p0.2.2.2.1.length : Int) := by omega
    have hb : -16777216 ≤ p2 ∧ p2 ≤ 16777216 := by omega
    have h24 := h.len
    have h8 := h.n8
    refine bnd (y := mvA p0 p3 p4) (forS_st (fun k => (List.range k).map fun a : Nat => (List.range p0.2.2.2.1.length).map fun b : Nat => ahd p0 (asI p3 p4 (a : Int)).toNat (asI p3 p4 (b : Int)).toNat) rfl (by omega) fun k hk => ?_) ?_
    · refine bnd (forS_st (fun j => (List.range j).map fun b : Nat => ahd p0 (asI p3 p4 (k : Int)).toNat (asI p3 p4 (b : Int)).toNat) rfl (by omega) fun j hj => ?_) ?_
      · have h1 := asI_rng (x := (k : Int)) hs ho (by omega)
        have h2 := asI_rng (x := (j : Int)) hs ho (by omega)
        simp only [f41_eq, Option.bind_some, Vd.idxA h1.1 h1.2, h.idxB h1.1 h1.2 h2.1 h2.2]
        rw [app_one (by simp; omega), List.range_succ, List.map_append]
        rfl
      · rw [app_one (by simp; omega), List.range_succ, List.map_append]
        rfl
    refine bnd (y := p0.2.2.2.2.map (mvT p3 p4 p2)) (Eq.trans (forS_st (fun k => (p0.2.2.2.2.take k).map (mvT p3 p4 p2)) rfl (by omega) fun k hk => ?_) (by rw [List.take_length])) ?_
    · have e1 : idx p0.2.2.2.2 (k : Int) = some (tnJ p0 k) := idx_getD hk
      simp only [e1, f41_eq, Option.bind_some]
      rw [app_one (by simp; omega), List.take_add_one, List.getElem?_eq_getElem hk, List.map_append]
      have e2 : tnJ p0 k = p0.2.2.2.2[k] := by unfold tnJ; rw [List.getD_eq_getElem?_getD, List.getElem?_eq_getElem hk]; rfl
      rw [e2]
      rfl
    have em : ((p0.1, wr (p0.2.1 + p2), wr (p0.2.2.1 + p2), mvA p0 p3 p4, p0.2.2.2.2.map (mvT p3 p4 p2)) : S_api_Roster) = mvR p0 p3 p4 p2 := rfl
    simp only [em, f33_eq (show 32 < wayB p0.2.2.2.2.length + 1000 by omega), Option.bind_some]
    cases hvm : vldB (mvR p0 p3 p4 p2) with
    | false => rfl
    | true =>
      have hm : Vd (mvR p0 p3 p4 p2) := ⟨hvm⟩
      have S := mv_same h hs ho hb
      have hg1' : p1 < (mvR p0 p3 p4 p2).1 := hg1
      have hlen := S.len
      have hfu : wayB p0.2.2.2.2.length < wayB p0.2.2.2.2.length + 1000 := by omega
      have hf1 : 100 < wayB p0.2.2.2.2.length + 1000 := by omega
      have hfm : wayB (mvR p0 p3 p4 p2).2.2.2.2.length < wayB p0.2.2.2.2.length + 1000 := by rw [hlen]; omega
      generalize wayB p0.2.2.2.2.length + 1000 = fuel at *
      generalize mvR p0 p3 p4 p2 = m at *
      obtain ⟨a, e1, ha⟩ := f34_so h hg0 hg1 hfu
      obtain ⟨a2, e2, ha2⟩ := f34_so hm hg0 hg1' hfm
      obtain ⟨b, O, hb1, hO, e3⟩ := f22_so h hg0 hg1 hfu
      obtain ⟨b2, O2, hb2, hO2, e4⟩ := f22_so hm hg0 hg1' hfm
      have q1 : b = a := hb1.uniq (by_ord h) ha
      rw [S.cB] at ha2 hb2 hO2
      have q2 : a2 = a := ha2.uniq (by_ord h) (S.best ha)
      have q3 : b2 = a := hb2.uniq (by_ord h) (S.best ha)
      have q4 : O2 = O := by funext x; exact hO2.uniq (by_ord h) (S.least hO) x
      subst q1; subst q2; subst q3; subst q4
      rw [S.prices] at e4
      have hal := ha.len h
      have hgl : (gapV p0 p1).1.length ≤ 24 := by
        have := rchL_len (r := p0) (g := p1) (w := -1)
        unfold gapV
        split
        · split
          · simp
          · simp only; omega
        · simp
      have hpl : (if b2 = [] then (([], 4) : List Int × Int) else (prL p0 p1 b2 O2, 0)).1.length ≤ 24 := by
        split
        · simp
        · unfold prL; simp; omega
      simp only [e1, e2, e3, e4, f20_eq (show 25 < fuel by omega), S.gap (gateE_of h hg0 hg1) (gateE_of hm hg0 hg1'), Option.bind_some, f24_eq (show b2.length ≤ 4294967296 by omega), f24_eq (show (gapV p0 p1).1.length ≤ 4294967296 by omega), beq_self_eq_true, Bool.and_true, Bool.true_and, guardO,
        Bool.not_true, Bool.false_eq_true, if_false]
      generalize (if b2 = [] then (([], 4) : List Int × Int) else (prL p0 p1 b2 O2, 0)) = v at *
      simp [f24_eq (show v.1.length ≤ 4294967296 by omega)]
end Go.Proofs.YthogdhepjcomjaaGreatDoor
