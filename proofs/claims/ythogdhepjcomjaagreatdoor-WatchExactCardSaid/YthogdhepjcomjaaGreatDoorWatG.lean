/-
  What is proved: which rosters are valid: the program's check and the specification's are the same test.
-/
import Derived.Test.YthogdhepjcomjaaGreatDoorModelE
import Derived.Test.YthogdhepjcomjaaGreatDoorPlain
import Derived.KernelRfl
namespace Go.Proofs.YthogdhepjcomjaaGreatDoor
open Go Go.Proofs.YthogdhepjcomjaaGreatDoor.Wh

theorem f99_eq (x a b : Int) : M.f99 x a b = some (decide (a ≤ x) && decide (x ≤ b)) := rfl
theorem guardO_bool (G v : Bool) : guardO G (some v) = some (G && v) := by cases G <;> rfl
theorem guardO_t {α : Type} [Inhabited α] {x : Option α} : guardO true x = x := rfl
theorem idx_getD {α : Type} {xs : List α} {d : α} {j : Nat} (h : j < xs.length) : idx xs (j : Int) = some (xs.getD j d) := by
  rw [idx_nat, List.getD_eq_getElem?_getD, List.getElem?_eq_getElem h]; rfl
theorem idx_getI {α : Type} {xs : List α} {d : α} {k : Int} (h0 : 0 ≤ k) (h : k < (xs.length : Int)) : idx xs k = some (xs.getD k.toNat d) := by
  obtain ⟨j, rfl⟩ : ∃ j : Nat, k = (j : Int) := ⟨k.toNat, by omega⟩
  simpa using idx_getD (d := d) (by omega)

theorem all_take {α : Type} {xs : List α} {q : α → Bool} {j : Nat} {x : α} (h : xs[j]? = some x) : (xs.take (j + 1)).all q = ((xs.take j).all q && q x) := by
  rw [List.take_add_one, List.all_append, h]
  simp
/-- A loop that leaves at the first that is not so. -/
theorem forM_all {α ρ : Type} (xs : List α) (hx : xs.length ≤ 4294967296) (q : α → Bool) (r : ρ) (f : Int → Unit → Option (Out Unit ρ)) (h : ∀ (i : Nat) (x : α), xs[i]? = some x → f (i : Int) () = some (if q x = true then .again () else .leave r)) :
    forM 0 (xs.length : Int) () f = some (if xs.all q = true then .again () else .leave r) := by
  obtain ⟨o, h1, h2⟩ := forM_inv (f := f) (fun j (_ : Unit) => (xs.take j).all q = true) (fun r' => r' = r ∧ xs.all q = false) hx (s := ()) (by simp) fun j s hj hs => by
    have hx' := List.getElem?_eq_getElem hj
    refine ⟨_, h j xs[j] hx', ?_⟩
    cases hq : q xs[j] with
    | true =>
      simp only [if_true, OutP]
      rw [all_take hx', hs, hq]; rfl
    | false =>
      simp only [Bool.false_eq_true, if_false, OutP, true_and]
      rw [List.all_eq_false]
      exact ⟨xs[j], by simp, by simp [hq]⟩
  rw [h1]
  cases o with
  | again s =>
    simp only [OutP, List.take_length] at h2
    rw [if_pos h2]
  | leave r' =>
    obtain ⟨rfl, h3⟩ := h2
    rw [h3]; rfl
theorem loopM_all {α ρ : Type} (xs : List α) (q : α → Bool) (r d : ρ) (fuel : Nat) (hf : xs.length < fuel) (f : Int → Option (Out Int ρ)) (h : ∀ (i : Nat) (x : α), xs[i]? = some x → f (i : Int) = some (if q x = true then .again ((i + 1 : Nat) : Int) else .leave r)) (he : f (xs.length : Int) = some (.leave d)) :
    loopM f fuel 0 = some (if xs.all q = true then d else r) := by
  obtain ⟨r', h1, h2⟩ := loopM_inv (f := f) (fun m s => m ≤ xs.length ∧ s = ((xs.length - m : Nat) : Int) ∧ (xs.take (xs.length - m)).all q = true) (fun r' => r' = if xs.all q = true then d else r) fuel xs.length 0 hf ⟨Nat.le_refl _, by simp, by simp⟩ fun m s ⟨hm, hs, ha⟩ => by
    subst hs
    cases m with
    | zero =>
      refine ⟨_, he, ?_⟩
      simp only [Nat.sub_zero, List.take_length] at ha
      simp [OutP, ha]
    | succ m =>
      have hj : xs.length - (m + 1) < xs.length := by omega
      have hx' := List.getElem?_eq_getElem hj
      refine ⟨_, h _ _ hx', ?_⟩
      cases hq : q xs[xs.length - (m + 1)] with
      | true =>
        simp only [if_true, OutP]
        refine ⟨m, by omega, by omega, ?_, ?_⟩
        · rw [show xs.length - (m + 1) + 1 = xs.length - m from by omega]
        · rw [show xs.length - m = (xs.length - (m + 1)) + 1 from by omega, all_take hx', ha, hq]; rfl
      | false =>
        simp only [Bool.false_eq_true, if_false, OutP]
        rw [if_neg]
        rw [Bool.not_eq_true, List.all_eq_false]
        exact ⟨_, List.getElem_mem hj, by simp [hq]⟩
  rw [h1, h2]

/-! ### what is valid -/
def ahd (r : S_api_Roster) (a b : Nat) : Int := (r.2.2.2.1.getD a []).getD b 0
def hdB (r : S_api_Roster) : Bool := decide (1 ≤ r.1 ∧ r.1 ≤ 8 ∧ 0 ≤ r.2.1 ∧ r.2.1 < r.2.2.1 ∧ r.2.2.1 ≤ 16777216 ∧ 1 ≤ (r.2.2.2.1.length : Int) ∧ (r.2.2.2.1.length : Int) ≤ 8 ∧ (r.2.2.2.2.length : Int) ≤ 24)
def rowB (n j : Nat) (l : List Int) : Bool := decide (l.length = n) && (List.range n).all fun b => decide (-1048576 ≤ l.getD b 0) && decide (l.getD b 0 ≤ 1048576) && (decide (j ≠ b) || decide (l.getD b 0 = 0))
def rowsB (r : S_api_Roster) : Bool := (List.range r.2.2.2.1.length).all fun j => rowB r.2.2.2.1.length j (r.2.2.2.1.getD j [])
def trB (n : Nat) (F : Nat → Nat → Int) : Bool := (List.range n).all fun a => (List.range n).all fun b => (List.range n).all fun c => decide (F a c ≤ F a b + F b c)
def turnB (g n : Int) (t : S_api_Turn) : Bool := decide (0 ≤ t.1 ∧ t.1 < g ∧ 0 ≤ t.2.1 ∧ t.2.1 < n ∧ 0 ≤ t.2.2.2.1 ∧ t.2.2.2.1 < n ∧ 0 ≤ t.2.2.1 ∧ t.2.2.1 ≤ 16777216 ∧ 0 ≤ t.2.2.2.2.1 ∧ t.2.2.2.2.1 ≤ 16777216 ∧ 0 ≤ t.2.2.2.2.2 ∧ t.2.2.2.2.2 ≤ 10000)
def turnsB (r : S_api_Roster) : Bool := r.2.2.2.2.all fun t => turnB r.1 (r.2.2.2.1.length : Int) t
def vldB (r : S_api_Roster) : Bool := hdB r && rowsB r && trB r.2.2.2.1.length (ahd r) && turnsB r

/-! ### the matrix -/
def matV (F : Nat → Nat → Int) : Vector (Vector Int 8) 8 := Vector.ofFn fun a => Vector.ofFn fun b => F a.1 b.1
theorem idxA_ofFn {α : Type} {n : Nat} {g : Fin n → α} {i : Nat} (hi : i < n) : idxA (Vector.ofFn g) (i : Int) = some (g ⟨i, hi⟩) := by
  unfold idxA
  rw [idx_nat, List.getElem?_eq_getElem (by simpa using hi)]
  simp
theorem setA_ofFn {α : Type} {n : Nat} {g : Fin n → α} {i : Nat} {z : α} (hi : i < n) : setA (Vector.ofFn g) (i : Int) z = some (Vector.ofFn fun k => if k.1 = i then z else g k) := by
  unfold setA
  rw [dif_pos ⟨by omega, by simpa using hi⟩]
  congr 1
  apply Vector.ext
  intro k hk
  simp only [Int.toNat_natCast, Vector.getElem_set, Vector.getElem_ofFn]
  by_cases e : i = k
  · subst e; simp
  · rw [if_neg e, if_neg (fun h => e h.symm)]
theorem matV_get {F : Nat → Nat → Int} {a b : Nat} (ha : a < 8) (hb : b < 8) : (matV F)[a][b] = F a b := by simp [matV]
theorem matV_inj {F G : Nat → Nat → Int} : matV F = matV G ↔ ∀ a b, a < 8 → b < 8 → F a b = G a b := by
  constructor
  · intro h a b ha hb
    rw [← matV_get (F := F) ha hb, h, matV_get ha hb]
  · intro h
    unfold matV
    congr 1
    funext a
    congr 1
    funext b
    exact h a.1 b.1 a.2 b.2
def cpm (Ah : List (List Int)) (k : Nat) : Nat → Nat → Int := fun a b => if a < k then (Ah.getD a []).getD b 0 else 0
theorem copyA_ofFn {g : Fin 8 → Int} {l : List Int} (h0 : ∀ k, g k = 0) : copyA (Vector.ofFn g) l = Vector.ofFn fun k => l.getD k.1 0 := by
  apply Vector.ext
  intro k hk
  have e : (copyA (Vector.ofFn g) l).toList[k]? = some (l.getD k 0) := by
    have : (copyA (Vector.ofFn g) l).toList = l.take 8 ++ (Vector.ofFn g).toList.drop (l.take 8).length := by unfold copyA; simp [Vector.toList]
    rw [this, List.getElem?_append]
    split
    · rename_i hlt
      rw [List.getElem?_take, if_pos hk, List.getD_eq_getElem?_getD]
      have : k < l.length := by simp at hlt; omega
      rw [List.getElem?_eq_getElem this]; rfl
    · rename_i hge
      have hl : l.length ≤ k := by simp at hge; omega
      have hm : (l.take 8).length = l.length := by simp; omega
      rw [hm, List.getElem?_drop, show l.length + (k - l.length) = k from by omega]
      rw [List.getElem?_eq_getElem (by simpa using hk), List.getD_eq_getElem?_getD, List.getElem?_eq_none hl]
      simp [h0]
  have e2 : (copyA (Vector.ofFn g) l).toList[k]? = some (copyA (Vector.ofFn g) l)[k] := by
    rw [List.getElem?_eq_getElem (by simpa using hk)]; simp
  rw [e2] at e
  simp only [Option.some.injEq] at e
  rw [e]; simp
theorem f121_eq {Ah : List (List Int)} (h : Ah.length ≤ 8) : M.f121 Ah = some (matV fun a b => (Ah.getD a []).getD b 0) := by
  unfold M.f121
  have h0 : (Vector.replicate 8 (#v[0, 0, 0, 0, 0, 0, 0, 0] : Vector Int 8)) = matV (cpm Ah 0) := by
    have : (cpm Ah 0) = fun _ _ => 0 := by funext a b; simp [cpm]
    rw [this]; decide
  rw [forS_st (fun k => matV (cpm Ah k)) h0.symm (by omega) (fun j hj => ?_)]
  · simp only [Option.bind_eq_bind, Option.bind_some, Option.some.injEq]
    rw [matV_inj]
    intro a b _ _
    unfold cpm
    split
    · rfl
    · rename_i hge
      have : Ah.getD a [] = [] := by rw [List.getD_eq_getElem?_getD, List.getElem?_eq_none (by omega)]; rfl
      rw [this]; rfl
  · have hj8 : j < 8 := by omega
    have e1 : idxA (matV (cpm Ah j)) (j : Int) = some (Vector.ofFn fun b => cpm Ah j j b.1) := idxA_ofFn hj8
    rw [e1, idx_getD (d := []) hj]
    simp only [Option.bind_eq_bind, Option.bind_some]
    rw [copyA_ofFn (fun k => by simp [cpm])]
    have e2 := setA_ofFn (g := fun a : Fin 8 => Vector.ofFn fun b : Fin 8 => cpm Ah j a.1 b.1) (z := Vector.ofFn fun k : Fin 8 => (Ah.getD j []).getD k.1 0) hj8
    show (setA (matV (cpm Ah j)) (j : Int) _).bind _ = _
    rw [show matV (cpm Ah j) = Vector.ofFn (fun a : Fin 8 => Vector.ofFn fun b : Fin 8 => cpm Ah j a.1 b.1) from rfl, e2]
    simp only [Option.bind_some, Option.some.injEq]
    unfold matV
    congr 1
    funext a
    by_cases e : a.1 = j
    · rw [if_pos e]
      congr 1
      funext b
      unfold cpm
      rw [if_pos (by omega), e]
    · rw [if_neg e]
      congr 1
      funext b
      unfold cpm
      by_cases h1 : a.1 < j
      · rw [if_pos h1, if_pos (by omega)]
      · rw [if_neg h1, if_neg (by omega)]

def hm (x y z : Int) : Int := imin x (wr (y + z))
theorem imin_le (x y : Int) : imin x y ≤ x := by unfold imin; split <;> omega
theorem stp_V {F : Nat → Nat → Int} {a b : Nat} {z : Int} (ha : a < 8) (hb : b < 8) : ((setA (Vector.ofFn fun k : Fin 8 => F a k.1) (b : Int) z) >>= fun z1 => setA (matV F) (a : Int) z1) = some (matV (updM F a b z)) := by
  rw [setA_ofFn hb]
  simp only [Option.bind_eq_bind, Option.bind_some]
  have e2 := setA_ofFn (g := fun a : Fin 8 => Vector.ofFn fun b : Fin 8 => F a.1 b.1) (z := Vector.ofFn fun k : Fin 8 => if k.1 = b then z else F a k.1) ha
  rw [show matV F = Vector.ofFn (fun a : Fin 8 => Vector.ofFn fun b : Fin 8 => F a.1 b.1) from rfl, e2]
  congr 1
  unfold matV updM
  congr 1
  funext x
  by_cases e : x.1 = a
  · rw [if_pos e]
    congr 1
    funext y
    by_cases e1 : y.1 = b
    · rw [if_pos e1, if_pos ⟨e, e1⟩]
    · rw [if_neg e1, if_neg (fun q => e1 q.2), e]
  · rw [if_neg e]
    congr 1
    funext y
    rw [if_neg (fun q => e q.1)]
theorem f122_eq {n : Nat} (hn : n ≤ 8) (F : Nat → Nat → Int) : M.f122 (matV F) (n : Int) = some (matV (cls hm n F)) := by
  unfold M.f122
  refine bnd (y := matV (cls hm n F)) ?_ rfl
  refine forS_map (fun c F => phs hm n c F) matV (by omega) fun c F hc => ?_
  refine bnd (y := matV (phs hm n c F)) ?_ rfl
  refine forS_map (fun a F => rowp hm n c a F) matV (by omega) fun a F ha => ?_
  refine bnd (y := matV (rowp hm n c a F)) ?_ rfl
  refine forS_map (fun b F => stp hm c a b F) matV (by omega) fun b F hb => ?_
  have h1 : ∀ x : Nat, x < 8 → idxA (matV F) (x : Int) = some (Vector.ofFn fun k : Fin 8 => F x k.1) := fun x hx => idxA_ofFn hx
  have h2 : ∀ x y : Nat, x < 8 → y < 8 → idxA (Vector.ofFn fun k : Fin 8 => F x k.1) (y : Int) = some (F x y) := fun x y hx hy => idxA_ofFn hy
  simp only [h1 a (by omega), h1 c (by omega), h2 a b (by omega) (by omega), h2 a c (by omega) (by omega), h2 c b (by omega) (by omega), Option.bind_eq_bind, Option.bind_some]
  have := stp_V (F := F) (z := hm (F a b) (F a c) (F c b)) (show a < 8 by omega) (show b < 8 by omega)
  simp only [Option.bind_eq_bind] at this
  unfold hm at this
  rw [setA_ofFn (show b < 8 by omega)] at this ⊢
  simp only [Option.bind_some] at this ⊢
  rw [this]
  rfl

/-! ### closed or not -/
def leM (F G : Nat → Nat → Int) : Prop := ∀ a b, F a b ≤ G a b
theorem leM.trans {F G H : Nat → Nat → Int} (h : leM F G) (k : leM G H) : leM F H := fun a b => Int.le_trans (h a b) (k a b)
theorem leM.anti {F G : Nat → Nat → Int} (h : leM F G) (k : leM G F) : F = G := by funext a b; exact Int.le_antisymm (h a b) (k a b)
theorem itr_le {g : Nat → (Nat → Nat → Int) → (Nat → Nat → Int)} (h : ∀ k F, leM (g k F) F) (F : Nat → Nat → Int) : ∀ n, leM (itr g n F) F
  | 0 => fun _ _ => Int.le_refl _
  | n + 1 => (h n _).trans (itr_le h F n)
theorem itr_fix {g : Nat → (Nat → Nat → Int) → (Nat → Nat → Int)} (h : ∀ k F, leM (g k F) F) {F : Nat → Nat → Int} : ∀ {n}, itr g n F = F → ∀ j, j < n → g j F = F
  | n + 1, e, j, hj => by
    have e1 : itr g n F = F := leM.anti (itr_le h F n) (by
      have := h n (itr g n F)
      have e' : g n (itr g n F) = F := e
      rw [e'] at this
      exact this)
    have e2 : g n F = F := by
      have e' : g n (itr g n F) = F := e
      rwa [e1] at e'
    rcases Nat.lt_or_ge j n with q | q
    · exact itr_fix h e1 j q
    · have : j = n := by omega
      subst this; exact e2
theorem itr_stay {g : Nat → (Nat → Nat → Int) → (Nat → Nat → Int)} {F : Nat → Nat → Int} : ∀ {n}, (∀ j, j < n → g j F = F) → itr g n F = F
  | 0, _ => rfl
  | n + 1, h => by
    show g n (itr g n F) = F
    rw [itr_stay fun j hj => h j (by omega)]
    exact h n (by omega)
theorem stp_le (c a b : Nat) (F : Nat → Nat → Int) : leM (stp hm c a b F) F := fun x y => by
  unfold stp updM
  split
  · rename_i e
    rw [e.1, e.2]
    exact imin_le _ _
  · exact Int.le_refl _
theorem rowp_le (n c a : Nat) (F : Nat → Nat → Int) : leM (rowp hm n c a F) F := itr_le (fun b F => stp_le c a b F) F n
theorem phs_le (n c : Nat) (F : Nat → Nat → Int) : leM (phs hm n c F) F := itr_le (fun a F => rowp_le n c a F) F n
theorem itr_outN {n : Nat} {g : Nat → (Nat → Nat → Int) → (Nat → Nat → Int)} {x y : Nat} (h : ∀ k F, k < n → g k F x y = F x y) (F : Nat → Nat → Int) : ∀ m, m ≤ n → itr g m F x y = F x y
  | 0, _ => rfl
  | m + 1, hm => by
    show g m (itr g m F) x y = F x y
    rw [h m _ (by omega)]
    exact itr_outN h F m (by omega)
theorem cls_out {n : Nat} {F : Nat → Nat → Int} {x y : Nat} (h : n ≤ x ∨ n ≤ y) : cls hm n F x y = F x y := by
  refine itr_outN (n := n) (fun c F _ => ?_) F n (Nat.le_refl _)
  refine itr_outN (n := n) (fun a F ha => ?_) F n (Nat.le_refl _)
  refine itr_outN (n := n) (fun b F hb => ?_) F n (Nat.le_refl _)
  unfold stp updM
  rw [if_neg (by omega)]
/-- It is closed just if no way by a third place is shorter. -/
theorem cls_iff {n : Nat} {F : Nat → Nat → Int} (hn : n ≤ 8) (hF : ∀ a b, a < n → b < n → -1048576 ≤ F a b ∧ F a b ≤ 1048576) : (matV F = matV (cls hm n F)) ↔ trB n F = true := by
  have hw : ∀ a b c, a < n → b < n → c < n → wr (F a b + F b c) = F a b + F b c := fun a b c ha hb hc => by
    have := hF a b ha hb; have := hF b c hb hc
    exact wr_id (by omega) (by omega)
  have ht : trB n F = true ↔ ∀ a b c, a < n → b < n → c < n → F a c ≤ F a b + F b c := by
    unfold trB
    simp only [List.all_eq_true, List.mem_range, decide_eq_true_eq]
    exact ⟨fun h a b c ha hb hc => h a ha b hb c hc, fun h a ha b hb c hc => h a b c ha hb hc⟩
  rw [ht, matV_inj]
  constructor
  · intro h
    have e : cls hm n F = F := by
      funext x y
      by_cases hx : x < 8 ∧ y < 8
      · exact (h x y hx.1 hx.2).symm
      · exact cls_out (by omega)
    intro a b c ha hb hc
    have e1 := itr_fix (fun c F => phs_le n c F) e b hb
    have e2 := itr_fix (fun a F => rowp_le n b a F) e1 a ha
    have e3 := itr_fix (fun c F => stp_le b a c F) e2 c hc
    have e4 : hm (F a c) (F a b) (F b c) = F a c := by
      have := congrFun (congrFun e3 a) c
      unfold stp updM at this
      rwa [if_pos ⟨rfl, rfl⟩] at this
    unfold hm imin at e4
    rw [hw a b c ha hb hc] at e4
    split at e4 <;> omega
  · intro h
    have e : cls hm n F = F := itr_stay fun b hb => itr_stay fun a ha => itr_stay fun c hc => by
      funext x y
      show updM F a c (hm (F a c) (F a b) (F b c)) x y = F x y
      unfold updM
      split
      · rename_i q
        rw [q.1, q.2]
        have := h a b c ha hb hc
        unfold hm imin
        rw [hw a b c ha hb hc]
        split <;> omega
      · rfl
    intro a b _ _
    rw [e]
end Go.Proofs.YthogdhepjcomjaaGreatDoor

/-
  What is proved: the program's check of rosters and the specification's are one test.
-/
namespace Go.Proofs.YthogdhepjcomjaaGreatDoor
open Go Go.Proofs.YthogdhepjcomjaaGreatDoor.Wh

theorem wr_succ {j : Nat} (h : j < 4294967296) : wr ((j : Int) + 1) = ((j + 1 : Nat) : Int) := by
  rw [wr_id (by omega) (by omega)]; simp
theorem f123_eq (t : S_api_Turn) : M.f123 t = some (decide (0 ≤ t.1 ∧ t.1 ≤ 7 ∧ 0 ≤ t.2.1 ∧ t.2.1 ≤ 7 ∧ 0 ≤ t.2.2.2.1 ∧ t.2.2.2.1 ≤ 7 ∧ 0 ≤ t.2.2.1 ∧ t.2.2.1 ≤ 16777216 ∧ 0 ≤ t.2.2.2.2.1 ∧ t.2.2.2.2.1 ≤ 16777216 ∧ 0 ≤ t.2.2.2.2.2 ∧ t.2.2.2.2.2 ≤ 10000)) := by
  unfold M.f123
  simp only [f99_eq, Option.bind_eq_bind, Option.bind_some, guardO_bool, Option.some.injEq]
  apply Bool.eq_iff_iff.2
  simp only [Bool.and_eq_true, decide_eq_true_eq]
  omega
theorem hdB_iff {r : S_api_Roster} : hdB r = true ↔ 1 ≤ r.1 ∧ r.1 ≤ 8 ∧ 0 ≤ r.2.1 ∧ r.2.1 < r.2.2.1 ∧ r.2.2.1 ≤ 16777216 ∧ 1 ≤ (r.2.2.2.1.length : Int) ∧ (r.2.2.2.1.length : Int) ≤ 8 ∧ (r.2.2.2.2.length : Int) ≤ 24 := by
  unfold hdB; rw [decide_eq_true_eq]
theorem rowB_iff {n j : Nat} {l : List Int} : rowB n j l = true ↔ l.length = n ∧ ∀ b, b < n → -1048576 ≤ l.getD b 0 ∧ l.getD b 0 ≤ 1048576 ∧ (j = b → l.getD b 0 = 0) := by
  unfold rowB
  simp only [Bool.and_eq_true, decide_eq_true_eq, List.all_eq_true, List.mem_range, Bool.or_eq_true]
  refine and_congr Iff.rfl ⟨fun h b hb => ?_, fun h b hb => ?_⟩
  · obtain ⟨⟨h1, h2⟩, h3⟩ := h b hb
    exact ⟨h1, h2, fun e => h3.elim (fun h => absurd e h) id⟩
  · obtain ⟨h1, h2, h3⟩ := h b hb
    refine ⟨⟨h1, h2⟩, ?_⟩
    by_cases e : j = b
    · exact .inr (h3 e)
    · exact .inl e
theorem rowsB_iff {r : S_api_Roster} : rowsB r = true ↔ ∀ a, a < r.2.2.2.1.length → (r.2.2.2.1.getD a []).length = r.2.2.2.1.length ∧ (∀ b, b < r.2.2.2.1.length → -1048576 ≤ ahd r a b ∧ ahd r a b ≤ 1048576) ∧ ahd r a a = 0 := by
  unfold rowsB
  simp only [List.all_eq_true, List.mem_range, rowB_iff]
  refine ⟨fun h a ha => ⟨(h a ha).1, fun b hb => ⟨((h a ha).2 b hb).1, ((h a ha).2 b hb).2.1⟩, ((h a ha).2 a ha).2.2 rfl⟩, fun h a ha => ⟨(h a ha).1, fun b hb => ⟨((h a ha).2.1 b hb).1, ((h a ha).2.1 b hb).2, fun e => by subst e; exact (h a ha).2.2⟩⟩⟩
/-- The rows, by the program. -/
theorem rows_loop {Ah : List (List Int)} (hn : Ah.length ≤ 8) (f : Int → Unit → Option (Out Unit Int))
    (hf : ∀ j : Nat, j < Ah.length → f (j : Int) () = (if ((Ah.getD j []).length : Int) != (Ah.length : Int) then some (.leave 70) else
      (forM (ρ := Int) 0 ((Ah.getD j []).length : Int) (() : Unit) fun i_17 _s_19 =>
        (idx (Ah.getD j []) i_17) >>= fun v_23 =>
        (M.f99 v_23 (-1048576) 1048576) >>= fun v_25 =>
        (if ((!v_25) || (((j : Int) == i_17) && (v_23 != 0))) = true then (some (.leave 70)) else (some (.again ())))) >>= fun o_20 => Out.elim o_20 (fun _s_19 => some (.again ())) (fun p_27 => some (.leave p_27)))) :
    forM (ρ := Int) 0 (Ah.length : Int) (() : Unit) f = some (if ((List.range Ah.length).all fun j => rowB Ah.length j (Ah.getD j [])) = true then .again () else .leave 70) := by
  refine forM_test (fun j => rowB Ah.length j (Ah.getD j [])) 70 (by omega) fun j hj _ => ?_
  rw [hf j hj]
  generalize Ah.getD j [] = l
  by_cases hlen : l.length = Ah.length
  · have e0 : ((l.length : Int) != (Ah.length : Int)) = false := by rw [hlen]; simp
    rw [e0]
    simp only [Bool.false_eq_true, if_false]
    have h1 := forM_test (ρ := Int) (N := l.length) (f := fun i_17 s_19 =>
        (idx l i_17) >>= fun v_23 =>
        (M.f99 v_23 (-1048576) 1048576) >>= fun v_25 =>
        (if ((!v_25) || (((j : Int) == i_17) && (v_23 != 0))) = true then (some (.leave 70)) else (some (.again ())))) (fun b => decide (-1048576 ≤ l.getD b 0) && decide (l.getD b 0 ≤ 1048576) && (decide (j ≠ b) || decide (l.getD b 0 = 0))) 70 (by omega) (fun b hb _ => by
      simp only [idx_getD (d := (0 : Int)) hb, Option.bind_eq_bind, Option.bind_some, f99_eq]
      generalize l.getD b 0 = z
      split
      · rename_i q
        rw [if_neg]
        simp only [Bool.or_eq_true, Bool.and_eq_true, Bool.not_eq_true', Bool.and_eq_false_iff, decide_eq_false_iff_not, decide_eq_true_eq, beq_iff_eq, bne_iff_ne] at q ⊢
        omega
      · rename_i q
        rw [if_pos]
        simp only [Bool.or_eq_true, Bool.and_eq_true, Bool.not_eq_true', Bool.and_eq_false_iff, decide_eq_false_iff_not, decide_eq_true_eq, beq_iff_eq, bne_iff_ne] at q ⊢
        omega)
    refine bnd h1 ?_
    unfold rowB
    rw [hlen]
    simp only [decide_true, Bool.true_and]
    split <;> rfl
  · have e0 : ((l.length : Int) != (Ah.length : Int)) = true := by simp; omega
    rw [e0]
    have : rowB Ah.length j l = false := by unfold rowB; simp [hlen]
    rw [this]; rfl
theorem f47_eq (r : S_api_Roster) : M.f47 r = some (if vldB r = true then 0 else 70) := by
  unfold M.f47
  simp only [f99_eq, Option.bind_eq_bind, Option.bind_some, guardO_bool]
  split
  · rename_i h
    have : hdB r = false := by
      rw [← Bool.not_eq_true]; intro hd
      rw [hdB_iff] at hd
      simp only [Bool.or_eq_true, Bool.not_eq_true', Bool.and_eq_false_iff, decide_eq_false_iff_not, decide_eq_true_eq, Bool.not_or, Bool.not_not, Bool.not_eq_false'] at h
      omega
    simp [vldB, this]
  · rename_i h
    have hd : hdB r = true := by
      rw [hdB_iff]
      simp only [Bool.or_eq_true, Bool.not_eq_true', Bool.and_eq_false_iff, decide_eq_false_iff_not, decide_eq_true_eq, Bool.not_or, Bool.not_not, Bool.not_eq_false'] at h
      omega
    have hd' := hdB_iff.1 hd
    have h8 : r.2.2.2.1.length ≤ 8 := by omega
    refine bnd (rows_loop h8 _ fun j hj => ?_) ?_
    · simp only [idx_getD (d := ([] : List Int)) hj, Option.bind_some]
      rfl
    · cases hr : ((List.range r.2.2.2.1.length).all fun j => rowB r.2.2.2.1.length j (r.2.2.2.1.getD j [])) with
      | false =>
        have : rowsB r = false := hr
        simp [vldB, hd, this, Out.elim]
      | true =>
        have hr : rowsB r = true := hr
        have hr' := rowsB_iff.1 hr
        simp only [if_true, Out.elim, f121_eq h8, Option.bind_some]
        rw [show (fun a b => (r.2.2.2.1.getD a []).getD b 0) = ahd r from rfl, f122_eq h8]
        simp only [Option.bind_some]
        have hc := cls_iff (F := ahd r) h8 (fun a b ha hb => (hr' a ha).2.1 b hb)
        by_cases ht : trB r.2.2.2.1.length (ahd r) = true
        · have e : matV (ahd r) = matV (cls hm r.2.2.2.1.length (ahd r)) := hc.2 ht
          have e0 : (matV (ahd r) != matV (cls hm r.2.2.2.1.length (ahd r))) = false := by rw [← e]; simp
          rw [e0]
          simp only [Bool.false_eq_true, if_false]
          have h1 := forM_all (ρ := Int) r.2.2.2.2 (by omega) (turnB r.1 (r.2.2.2.1.length : Int)) 70 (fun i_32 s_34 =>
            (idx r.2.2.2.2 i_32) >>= fun v_38 =>
            (M.f123 v_38) >>= fun v_40 =>
            (if ((((!v_40) || (decide (r.1 ≤ v_38.1))) || (decide ((r.2.2.2.1.length : Int) ≤ v_38.2.1))) || (decide ((r.2.2.2.1.length : Int) ≤ v_38.2.2.2.1))) = true then (some (.leave 70)) else (some (.again ())))) (fun i x hx => by
              simp only [idx_nat, hx, Option.bind_eq_bind, Option.bind_some, f123_eq]
              unfold turnB
              split
              · rename_i q
                rw [if_neg]
                simp only [Bool.or_eq_true, Bool.not_eq_true', decide_eq_false_iff_not, decide_eq_true_eq] at q ⊢
                omega
              · rename_i q
                rw [if_pos]
                simp only [Bool.or_eq_true, Bool.not_eq_true', decide_eq_false_iff_not, decide_eq_true_eq] at q ⊢
                omega)
          refine bnd h1 ?_
          have : vldB r = turnsB r := by simp [vldB, hd, hr, ht]
          rw [this]
          show _ = some (if r.2.2.2.2.all (turnB r.1 (r.2.2.2.1.length : Int)) = true then 0 else 70)
          cases r.2.2.2.2.all (turnB r.1 (r.2.2.2.1.length : Int)) <;> rfl
        · have e : matV (ahd r) ≠ matV (cls hm r.2.2.2.1.length (ahd r)) := fun e => ht (hc.1 e)
          have e0 : (matV (ahd r) != matV (cls hm r.2.2.2.1.length (ahd r))) = true := by simpa using e
          rw [e0]
          have : vldB r = false := by simp [vldB, ht]
          rw [this]; rfl
end Go.Proofs.YthogdhepjcomjaaGreatDoor

/-
  What is proved: the specification's test of rosters; that a turn begins, meets and ends; who guards; what turns cost.
-/
namespace Go.Proofs.YthogdhepjcomjaaGreatDoor
open Go Go.Proofs.YthogdhepjcomjaaGreatDoor.Wh

theorem f116_eq (t : S_api_Turn) : M.f116 t = some (decide (0 ≤ t.1 ∧ t.1 < 8 ∧ 0 ≤ t.2.1 ∧ t.2.1 < 8 ∧ 0 ≤ t.2.2.2.1 ∧ t.2.2.2.1 < 8 ∧ 0 ≤ t.2.2.1 ∧ t.2.2.1 ≤ 16777216 ∧ 0 ≤ t.2.2.2.2.1 ∧ t.2.2.2.2.1 ≤ 16777216 ∧ 0 ≤ t.2.2.2.2.2 ∧ t.2.2.2.2.2 ≤ 10000)) := by
  unfold M.f116
  congr 1
  apply Bool.eq_iff_iff.2
  simp only [Bool.and_eq_true, decide_eq_true_eq]
  omega
theorem lt_dec {j n : Nat} (h : j < n) : decide ((j : Int) < (n : Int)) = true := by simpa using h
theorem lt_dec_self {n : Nat} : decide ((n : Int) < (n : Int)) = false := by simp
/-- The specification's test of all three ways. -/
theorem f117_eq {fuel : Nat} {r : S_api_Roster} (hf : 8 < fuel) (hn : r.2.2.2.1.length ≤ 8) (hr : rowsB r = true) : M.f117 fuel r.2.2.2.1 = some (trB r.2.2.2.1.length (ahd r)) := by
  have hr' := rowsB_iff.1 hr
  have hi : ∀ a b : Nat, a < r.2.2.2.1.length → b < r.2.2.2.1.length → idx (r.2.2.2.1.getD a []) (b : Int) = some (ahd r a b) := fun a b ha hb => idx_getD (by rw [(hr' a ha).1]; exact hb)
  unfold M.f117 trB
  have hq : ∀ (q : Bool), (if q = true then (Sum.inl () : Unit ⊕ Bool) else .inr false) = if q = true then .inl () else .inr false := fun _ => rfl
  refine bnd (loopM_test (ρ := Unit ⊕ Bool) (N := r.2.2.2.1.length) (fun a : Nat => (a : Int)) (fun a => (List.range r.2.2.2.1.length).all fun b => (List.range r.2.2.2.1.length).all fun c => decide (ahd r a c ≤ ahd r a b + ahd r b c)) (.inr false) (.inl ()) rfl (by omega) (fun a ha _ => ?_) (by simp)) ?_
  · simp only [lt_dec ha, if_true]
    refine bnd (loopM_test (ρ := Unit ⊕ Bool) (N := r.2.2.2.1.length) (fun b : Nat => (b : Int)) (fun b => (List.range r.2.2.2.1.length).all fun c => decide (ahd r a c ≤ ahd r a b + ahd r b c)) (.inr false) (.inl ()) rfl (by omega) (fun b hb _ => ?_) (by simp)) ?_
    · simp only [lt_dec hb, if_true]
      refine bnd (loopM_test (ρ := Unit ⊕ Bool) (N := r.2.2.2.1.length) (fun c : Nat => (c : Int)) (fun c => decide (ahd r a c ≤ ahd r a b + ahd r b c)) (.inr false) (.inl ()) rfl (by omega) (fun c hc _ => ?_) (by simp)) ?_
      · have h1 := (hr' a ha).2.1 b hb
        have h2 := (hr' b hb).2.1 c hc
        simp only [lt_dec hc, if_true, idx_getD (d := ([] : List Int)) ha, idx_getD (d := ([] : List Int)) hb, hi a b ha hb, hi a c ha hc, hi b c hb hc, Option.bind_eq_bind, Option.bind_some, wr_succ (show c < 4294967296 by omega), wr_id (show -9223372036854775808 ≤ ahd r a b + ahd r b c by omega) (by omega)]
        by_cases h : ahd r a c ≤ ahd r a b + ahd r b c
        · rw [if_neg (by simpa using h), if_pos (by simpa using h)]
        · rw [if_pos (by simpa using h), if_neg (by simpa using h)]
      · generalize (List.range r.2.2.2.1.length).all (fun c => decide (ahd r a c ≤ ahd r a b + ahd r b c)) = q
        rw [wr_succ (by omega)]
        cases q <;> rfl
    · generalize ((List.range r.2.2.2.1.length).all fun b => (List.range r.2.2.2.1.length).all fun c => decide (ahd r a c ≤ ahd r a b + ahd r b c)) = q
      rw [wr_succ (by omega)]
      cases q <;> rfl
  · generalize ((List.range r.2.2.2.1.length).all fun a => (List.range r.2.2.2.1.length).all fun b => (List.range r.2.2.2.1.length).all fun c => decide (ahd r a c ≤ ahd r a b + ahd r b c)) = q
    cases q <;> rfl
theorem f33_eq {fuel : Nat} (hf : 32 < fuel) (r : S_api_Roster) : M.f33 fuel r = some (vldB r) := by
  unfold M.f33
  split
  · rename_i h
    have : hdB r = false := by
      rw [← Bool.not_eq_true]; intro hd
      rw [hdB_iff] at hd
      simp only [Bool.or_eq_true, decide_eq_true_eq] at h
      omega
    simp [vldB, this]
  · rename_i h
    have hd : hdB r = true := by
      rw [hdB_iff]
      simp only [Bool.or_eq_true, decide_eq_true_eq] at h
      omega
    have hd' := hdB_iff.1 hd
    have h8 : r.2.2.2.1.length ≤ 8 := by omega
    refine bnd (loopM_test (ρ := Unit ⊕ Bool) (N := r.2.2.2.1.length) (fun j : Nat => (j : Int)) (fun j => rowB r.2.2.2.1.length j (r.2.2.2.1.getD j [])) (.inr false) (.inl ()) rfl (by omega) (fun j hj _ => ?_) (by simp)) ?_
    · simp only [lt_dec hj, if_true, idx_getD (d := ([] : List Int)) hj, Option.bind_eq_bind, Option.bind_some]
      generalize hl : r.2.2.2.1.getD j [] = l
      by_cases hlen : l.length = r.2.2.2.1.length
      · have e0 : ((l.length : Int) != (r.2.2.2.1.length : Int)) = false := by rw [hlen]; simp
        have hj' : j < l.length := by omega
        simp only [e0, Bool.not_false, guardO, Option.bind_some, idx_getD (d := (0 : Int)) hj', Bool.false_or]
        by_cases hz : l.getD j 0 = 0
        · rw [hz]
          simp only [bne_self_eq_false, Bool.false_eq_true, if_false]
          refine bnd (loopM_test (ρ := Unit ⊕ Bool) (N := r.2.2.2.1.length) (fun b : Nat => (b : Int)) (fun b => decide (-1048576 ≤ l.getD b 0) && decide (l.getD b 0 ≤ 1048576)) (.inr false) (.inl ()) rfl (by omega) (fun b hb _ => ?_) (by simp)) ?_
          · simp only [lt_dec hb, if_true, idx_getD (d := (0 : Int)) (show b < l.length by omega), Option.bind_some, wr_succ (show b < 4294967296 by omega)]
            have hix : idx l (b : Int) = some (l.getD b 0) := idx_getD (by omega)
            generalize l.getD b 0 = z at hix ⊢
            by_cases h1 : z < -1048576
            · have : ¬ -1048576 ≤ z := by omega
              simp [h1, this]
            · have : -1048576 ≤ z := by omega
              by_cases h2 : 1048576 < z
              · have h3 : ¬ z ≤ 1048576 := by omega
                simp [h1, h2, h3, this, hix]
              · have h3 : z ≤ 1048576 := by omega
                simp [h1, h2, h3, this, hix]
          · have e : rowB r.2.2.2.1.length j l = (List.range r.2.2.2.1.length).all fun b => decide (-1048576 ≤ l.getD b 0) && decide (l.getD b 0 ≤ 1048576) := by
              apply Bool.eq_iff_iff.2
              rw [rowB_iff]
              simp only [List.all_eq_true, List.mem_range, Bool.and_eq_true, decide_eq_true_eq]
              exact ⟨fun h b hb => ⟨(h.2 b hb).1, (h.2 b hb).2.1⟩, fun h => ⟨hlen, fun b hb => ⟨(h b hb).1, (h b hb).2, fun e => by rw [← e]; exact hz⟩⟩⟩
            rw [e, wr_succ (by omega)]
            generalize ((List.range r.2.2.2.1.length).all fun b => decide (-1048576 ≤ l.getD b 0) && decide (l.getD b 0 ≤ 1048576)) = q
            cases q <;> rfl
        · have e1 : (l.getD j 0 != 0) = true := by simpa using hz
          rw [if_pos e1]
          have : rowB r.2.2.2.1.length j l = false := by
            rw [← Bool.not_eq_true]; intro h
            exact hz (((rowB_iff.1 h).2 j hj).2.2 rfl)
          rw [this]; rfl
      · have e0 : ((l.length : Int) != (r.2.2.2.1.length : Int)) = true := by simp; omega
        simp only [e0, Bool.not_true, guardO, Option.bind_some, Bool.true_or, if_true]
        have : rowB r.2.2.2.1.length j l = false := by unfold rowB; simp [hlen]
        rw [this]; rfl
    · cases hr : ((List.range r.2.2.2.1.length).all fun j => rowB r.2.2.2.1.length j (r.2.2.2.1.getD j [])) with
      | false =>
        have : rowsB r = false := hr
        simp [vldB, hd, this, sumE]
      | true =>
        have hr : rowsB r = true := hr
        simp only [if_true, sumE]
        refine bnd (loopM_all (ρ := Unit ⊕ Bool) r.2.2.2.2 (turnB r.1 (r.2.2.2.1.length : Int)) (.inr false) (.inl ()) fuel (by omega) _ (fun i x hx => ?_) (by simp)) ?_
        · have hi := (List.getElem?_eq_some_iff.1 hx).1
          simp only [lt_dec hi, if_true, idx_nat, hx, Option.bind_eq_bind, Option.bind_some, f116_eq, wr_succ (show i < 4294967296 by omega)]
          by_cases h1 : r.1 ≤ x.1
          · have : turnB r.1 (r.2.2.2.1.length : Int) x = false := by unfold turnB; rw [decide_eq_false_iff_not]; omega
            simp [h1, this, guardO]
          by_cases h2 : (r.2.2.2.1.length : Int) ≤ x.2.1
          · have : turnB r.1 (r.2.2.2.1.length : Int) x = false := by unfold turnB; rw [decide_eq_false_iff_not]; omega
            simp [h1, h2, this, guardO]
          by_cases h3 : (r.2.2.2.1.length : Int) ≤ x.2.2.2.1
          · have : turnB r.1 (r.2.2.2.1.length : Int) x = false := by unfold turnB; rw [decide_eq_false_iff_not]; omega
            simp [h1, h2, h3, this, guardO]
          have e : turnB r.1 (r.2.2.2.1.length : Int) x = decide (0 ≤ x.1 ∧ x.1 < 8 ∧ 0 ≤ x.2.1 ∧ x.2.1 < 8 ∧ 0 ≤ x.2.2.2.1 ∧ x.2.2.2.1 < 8 ∧ 0 ≤ x.2.2.1 ∧ x.2.2.1 ≤ 16777216 ∧ 0 ≤ x.2.2.2.2.1 ∧ x.2.2.2.2.1 ≤ 16777216 ∧ 0 ≤ x.2.2.2.2.2 ∧ x.2.2.2.2.2 ≤ 10000) := by
            unfold turnB
            apply Bool.eq_iff_iff.2
            simp only [decide_eq_true_eq]
            omega
          rw [e]
          simp only [decide_eq_false h1, decide_eq_false h2, decide_eq_false h3, guardO, Bool.not_false, Option.bind_some, Bool.false_or]
          have key : ∀ q : Bool, (if (!q) = true then (some (.leave (.inr false)) : Option (Out Int (Unit ⊕ Bool))) else some (.again ((i + 1 : Nat) : Int))) = some (if q = true then .again ((i + 1 : Nat) : Int) else .leave (.inr false)) := by
            intro q; cases q <;> rfl
          exact key _
        · have h4 : r.2.2.2.2.all (turnB r.1 (r.2.2.2.1.length : Int)) = turnsB r := rfl
          rw [h4]
          cases h5 : turnsB r with
          | false => simp [vldB, h5]
          | true =>
            simp only [if_true, f117_eq (show 8 < fuel by omega) h8 hr, Option.bind_eq_bind, Option.bind_some]
            simp [vldB, hd, hr, h5]
end Go.Proofs.YthogdhepjcomjaaGreatDoor

/-
  What is proved: the words of models of the watch that questions are made of: tests of lists, turns, lags, who guards, what turns cost.
-/
namespace Go.Proofs.YthogdhepjcomjaaGreatDoor
open Go Go.Proofs.YthogdhepjcomjaaGreatDoor.Wh

/-! ### lists -/
theorem f119_eq {l : List Int} {f : Int → Option Bool} (p : Int → Bool) (hl : l.length ≤ 4294967296) (h : ∀ x ∈ l, f x = some (p x)) : M.f119 l f = some (idxF p l) := by
  unfold M.f119
  refine bnd (forM_idx l p hl fun j x hx => ?_) ?_
  · simp only [idx_nat, hx, Option.bind_eq_bind, Option.bind_some, h x (List.mem_of_getElem? hx)]
    cases p x <;> rfl
  · unfold idxF
    cases l.findIdx? p <;> rfl
theorem f42_eq {l : List Int} {f : Int → Option Bool} (p : Int → Bool) (hl : l.length ≤ 4294967296) (h : ∀ x ∈ l, f x = some (p x)) : M.f42 l f = some (l.any p) := by
  unfold M.f42
  rw [f119_eq p hl h]
  simp only [Option.bind_eq_bind, Option.bind_some, idxF_any]
theorem f120_eq {l : List Int} {v : Int} (hl : l.length ≤ 4294967296) : M.f120 l v = some (idxF (fun x => v == x) l) := by
  unfold M.f120
  refine bnd (forM_idx l (fun x => v == x) hl fun j x hx => ?_) ?_
  · simp only [idx_nat, hx, Option.bind_eq_bind, Option.bind_some]
    cases v == x <;> rfl
  · unfold idxF
    cases l.findIdx? (fun x => v == x) <;> rfl
theorem f44_eq {l : List Int} {v : Int} (hl : l.length ≤ 4294967296) : M.f44 l v = some (l.contains v) := by
  unfold M.f44
  rw [f120_eq hl]
  simp only [Option.bind_eq_bind, Option.bind_some, idxF_any, Option.some.injEq]
  rw [List.contains_eq_any_beq]
theorem f24_eq {a b : List Int} (ha : a.length ≤ 4294967296) : M.f24 a b = some (a == b) := by
  unfold M.f24
  by_cases h : a.length = b.length
  · rw [if_neg (by rw [h]; simp)]
    refine bnd (forM_test (fun j => a.getD j 0 == b.getD j 0) false ha fun j hj _ => ?_) ?_
    · simp only [idx_getD (d := (0 : Int)) hj, idx_getD (d := (0 : Int)) (show j < b.length by omega), Option.bind_eq_bind, Option.bind_some]
      generalize a.getD j 0 = u, b.getD j 0 = v
      by_cases e : u = v <;> simp [e]
    · have e : ((List.range a.length).all fun j => a.getD j 0 == b.getD j 0) = (a == b) := by
        apply Bool.eq_iff_iff.2
        simp only [List.all_eq_true, List.mem_range, beq_iff_eq]
        refine ⟨fun q => List.ext_getElem h fun j h1 h2 => ?_, fun q j _ => by rw [q]⟩
        have := q j h1
        rwa [List.getD_eq_getElem?_getD, List.getD_eq_getElem?_getD, List.getElem?_eq_getElem h1, List.getElem?_eq_getElem h2] at this
      rw [e]
      cases a == b <;> rfl
  · rw [if_pos (by simp; omega)]
    have : (a == b) = false := by
      rw [beq_eq_false_iff_ne]; intro e; exact h (by rw [e])
    rw [this]
/-- No number is there twice. -/
def difB (l : List Int) : Bool := (List.range l.length).all fun i => !(l.take i).contains (l.getD i 0)
theorem f86_eq {l : List Int} (hl : l.length ≤ 4294967296) : M.f86 l = some (difB l) := by
  unfold M.f86
  refine bnd (forM_test (fun i => !(l.take i).contains (l.getD i 0)) false hl fun j hj _ => ?_) ?_
  · have hc : cut l (j : Int) = some (l.take j) := by unfold cut; rw [if_pos (by omega)]; simp
    simp only [idx_getD (d := (0 : Int)) hj, hc, Option.bind_eq_bind, Option.bind_some, f44_eq (show (l.take j).length ≤ 4294967296 by rw [List.length_take]; omega)]
    cases (l.take j).contains (l.getD j 0) <;> rfl
  · unfold difB
    generalize ((List.range l.length).all fun i => !(l.take i).contains (l.getD i 0)) = q
    cases q <;> rfl

/-! ### turns -/
def inR (r : S_api_Roster) (x : Int) : Bool := decide (0 ≤ x) && decide (x < (r.2.2.2.2.length : Int))
theorem inR_iff {r : S_api_Roster} {x : Int} : inR r x = true ↔ 0 ≤ x ∧ x < (r.2.2.2.2.length : Int) := by unfold inR; simp
/-- The turn of a number. -/
def tn (r : S_api_Roster) (x : Int) : S_api_Turn := r.2.2.2.2.getD x.toNat (0, 0, 0, 0, 0, 0)
/-- A valid roster: what is known of it. -/
structure Vd (r : S_api_Roster) : Prop where
  h : vldB r = true
theorem Vd.hd {r : S_api_Roster} (h : Vd r) : hdB r = true := by have := h.h; unfold vldB at this; simp only [Bool.and_eq_true] at this; exact this.1.1.1
theorem Vd.rows {r : S_api_Roster} (h : Vd r) : rowsB r = true := by have := h.h; unfold vldB at this; simp only [Bool.and_eq_true] at this; exact this.1.1.2
theorem Vd.tri {r : S_api_Roster} (h : Vd r) : trB r.2.2.2.1.length (ahd r) = true := by have := h.h; unfold vldB at this; simp only [Bool.and_eq_true] at this; exact this.1.2
theorem Vd.turns {r : S_api_Roster} (h : Vd r) : turnsB r = true := by have := h.h; unfold vldB at this; simp only [Bool.and_eq_true] at this; exact this.2
theorem Vd.len {r : S_api_Roster} (h : Vd r) : r.2.2.2.2.length ≤ 24 := by have := hdB_iff.1 h.hd; omega
theorem Vd.n8 {r : S_api_Roster} (h : Vd r) : r.2.2.2.1.length ≤ 8 := by have := hdB_iff.1 h.hd; omega
theorem Vd.n1 {r : S_api_Roster} (h : Vd r) : 1 ≤ r.2.2.2.1.length := by have := hdB_iff.1 h.hd; omega
theorem Vd.time {r : S_api_Roster} (h : Vd r) : 0 ≤ r.2.1 ∧ r.2.1 < r.2.2.1 ∧ r.2.2.1 ≤ 16777216 := by have := hdB_iff.1 h.hd; omega
theorem Vd.bnd {r : S_api_Roster} (h : Vd r) {a b : Nat} (ha : a < r.2.2.2.1.length) (hb : b < r.2.2.2.1.length) : -1048576 ≤ ahd r a b ∧ ahd r a b ≤ 1048576 := ((rowsB_iff.1 h.rows) a ha).2.1 b hb
theorem Vd.zero {r : S_api_Roster} (h : Vd r) {a : Nat} (ha : a < r.2.2.2.1.length) : ahd r a a = 0 := ((rowsB_iff.1 h.rows) a ha).2.2
theorem Vd.row {r : S_api_Roster} (h : Vd r) {a : Nat} (ha : a < r.2.2.2.1.length) : (r.2.2.2.1.getD a []).length = r.2.2.2.1.length := ((rowsB_iff.1 h.rows) a ha).1
theorem Vd.way {r : S_api_Roster} (h : Vd r) {a b c : Nat} (ha : a < r.2.2.2.1.length) (hb : b < r.2.2.2.1.length) (hc : c < r.2.2.2.1.length) : ahd r a c ≤ ahd r a b + ahd r b c := by
  have := h.tri
  unfold trB at this
  simp only [List.all_eq_true, List.mem_range, decide_eq_true_eq] at this
  exact this a ha b hb c hc
theorem turnB_iff {g n : Int} {t : S_api_Turn} : turnB g n t = true ↔ 0 ≤ t.1 ∧ t.1 < g ∧ 0 ≤ t.2.1 ∧ t.2.1 < n ∧ 0 ≤ t.2.2.2.1 ∧ t.2.2.2.1 < n ∧ 0 ≤ t.2.2.1 ∧ t.2.2.1 ≤ 16777216 ∧ 0 ≤ t.2.2.2.2.1 ∧ t.2.2.2.2.1 ≤ 16777216 ∧ 0 ≤ t.2.2.2.2.2 ∧ t.2.2.2.2.2 ≤ 10000 := by unfold turnB; rw [decide_eq_true_eq]
theorem Vd.turn {r : S_api_Roster} (h : Vd r) {x : Int} (hx : inR r x = true) : turnB r.1 (r.2.2.2.1.length : Int) (tn r x) = true := by
  have hx := inR_iff.1 hx
  have := h.turns
  unfold turnsB at this
  rw [List.all_eq_true] at this
  refine this _ ?_
  unfold tn
  rw [List.getD_eq_getElem?_getD, List.getElem?_eq_getElem (by omega)]
  exact List.getElem_mem _
theorem Vd.idxT {r : S_api_Roster} {x : Int} (hx : inR r x = true) : idx r.2.2.2.2 x = some (tn r x) := by
  have hx := inR_iff.1 hx
  exact idx_getI hx.1 hx.2
theorem Vd.idxA {r : S_api_Roster} {a : Int} (h0 : 0 ≤ a) (h1 : a < (r.2.2.2.1.length : Int)) : idx r.2.2.2.1 a = some (r.2.2.2.1.getD a.toNat []) := idx_getI h0 h1
theorem Vd.idxB {r : S_api_Roster} (h : Vd r) {a b : Int} (h0 : 0 ≤ a) (h1 : a < (r.2.2.2.1.length : Int)) (h2 : 0 ≤ b) (h3 : b < (r.2.2.2.1.length : Int)) : idx (r.2.2.2.1.getD a.toNat []) b = some (ahd r a.toNat b.toNat) := by
  refine idx_getI h2 ?_
  rw [h.row (by omega)]; exact h3
theorem f146_eq {r : S_api_Roster} (h : r.2.2.2.2.length ≤ 24) (x : Int) : M.f146 x r = some (!inR r x) := by
  unfold M.f146 inR
  rw [wr_id (by omega) (by omega)]
  simp only [f99_eq, Option.bind_eq_bind, Option.bind_some, Option.some.injEq]
  congr 1
  apply Bool.eq_iff_iff.2
  simp only [Bool.and_eq_true, decide_eq_true_eq]
  omega
theorem f85_eq {r : S_api_Roster} {l : List Int} (hl : l.length ≤ 4294967296) : M.f85 r l = some (if vldB r = true then (if l.all (inR r) = true then 0 else 1) else 70) := by
  unfold M.f85
  rw [f47_eq]
  simp only [Option.bind_eq_bind, Option.bind_some]
  cases h : vldB r with
  | false => rfl
  | true =>
    have hv : Vd r := ⟨h⟩
    simp only [if_true, f42_eq (fun x => !inR r x) hl (fun x _ => f146_eq hv.len x), Option.bind_some]
    have e : (l.any fun x => !inR r x) = !l.all (inR r) := by rw [List.all_eq_not_any_not, Bool.not_not]
    rw [e]
    cases l.all (inR r) <;> rfl
/-- How late a turn begins; how late the watch ends behind it; how late one follows another. -/
def bgI (r : S_api_Roster) (x : Int) : Int := (tn r x).2.2.1 - r.2.1 + ahd r 0 (tn r x).2.1.toNat
def enI (r : S_api_Roster) (x : Int) : Int := r.2.2.1 - (tn r x).2.2.2.2.1 + ahd r (tn r x).2.2.2.1.toNat 0
def meI (r : S_api_Roster) (x y : Int) : Int := (tn r y).2.2.1 - (tn r x).2.2.2.2.1 + ahd r (tn r x).2.2.2.1.toNat (tn r y).2.1.toNat
def foB (r : S_api_Roster) (x y : Int) : Bool := ((x != y) && ((tn r x).1 == (tn r y).1)) && decide (meI r x y ≤ 0)
section
variable {r : S_api_Roster} (h : Vd r)
include h
theorem Vd.lag {a b : Int} {u v : Int} (h0 : 0 ≤ a) (h1 : a < (r.2.2.2.1.length : Int)) (_h2 : 0 ≤ b) (h3 : b < (r.2.2.2.1.length : Int)) (hu : 0 ≤ u ∧ u ≤ 16777216) (hv : 0 ≤ v ∧ v ≤ 16777216) : wr (wr (v - u) + ahd r a.toNat b.toNat) = v - u + ahd r a.toNat b.toNat := by
  have := h.bnd (a := a.toNat) (b := b.toNat) (by omega) (by omega)
  rw [wr_id (n := v - u) (by omega) (by omega)]
  exact wr_id (by omega) (by omega)
theorem Vd.bgL {x : Int} (hx : inR r x = true) : wr (wr ((tn r x).2.2.1 - r.2.1) + ahd r 0 (tn r x).2.1.toNat) = bgI r x := by
  have ht := turnB_iff.1 (h.turn hx)
  have := h.n1; have := h.time
  exact h.lag (a := 0) (by omega) (by omega) (by omega) (by omega) (by omega) (by omega)
theorem Vd.enL {x : Int} (hx : inR r x = true) : wr (wr (r.2.2.1 - (tn r x).2.2.2.2.1) + ahd r (tn r x).2.2.2.1.toNat 0) = enI r x := by
  have ht := turnB_iff.1 (h.turn hx)
  have := h.n1; have := h.time
  exact h.lag (b := 0) (by omega) (by omega) (by omega) (by omega) (by omega) (by omega)
theorem Vd.meL {x y : Int} (hx : inR r x = true) (hy : inR r y = true) : wr (wr ((tn r y).2.2.1 - (tn r x).2.2.2.2.1) + ahd r (tn r x).2.2.2.1.toNat (tn r y).2.1.toNat) = meI r x y := by
  have ht := turnB_iff.1 (h.turn hx)
  have hu := turnB_iff.1 (h.turn hy)
  exact h.lag (by omega) (by omega) (by omega) (by omega) (by omega) (by omega)
theorem f148_eq {a b u v : Int} (h0 : 0 ≤ a) (h1 : a < (r.2.2.2.1.length : Int)) (h2 : 0 ≤ b) (h3 : b < (r.2.2.2.1.length : Int)) : M.f148 r a u b v = some (wr (wr (v - u) + ahd r a.toNat b.toNat), a == b) := by
  unfold M.f148
  simp only [Vd.idxA h0 h1, h.idxB h0 h1 h2 h3, Option.bind_eq_bind, Option.bind_some]
theorem f92_eq {x : Int} (hx : inR r x = true) : M.f92 r x = some (bgI r x, (0 : Int) == (tn r x).2.1) := by
  have ht := turnB_iff.1 (h.turn hx)
  have := h.n1
  unfold M.f92
  simp only [Vd.idxT hx, f148_eq h (show (0 : Int) ≤ 0 by omega) (show (0 : Int) < (r.2.2.2.1.length : Int) by omega) (show 0 ≤ (tn r x).2.1 by omega) (by omega), Option.bind_eq_bind, Option.bind_some]
  rw [← h.bgL hx]; rfl
theorem f102_eq {x : Int} (hx : inR r x = true) : M.f102 r x = some (enI r x, (tn r x).2.2.2.1 == (0 : Int)) := by
  have ht := turnB_iff.1 (h.turn hx)
  have := h.n1
  unfold M.f102
  simp only [Vd.idxT hx, f148_eq h (show 0 ≤ (tn r x).2.2.2.1 by omega) (show (tn r x).2.2.2.1 < (r.2.2.2.1.length : Int) by omega) (show (0 : Int) ≤ 0 by omega) (show (0 : Int) < (r.2.2.2.1.length : Int) by omega), Option.bind_eq_bind, Option.bind_some]
  rw [← h.enL hx]; rfl
theorem f149_eq {x y : Int} (hx : inR r x = true) (hy : inR r y = true) : M.f149 r x y = some (meI r x y, (tn r x).2.2.2.1 == (tn r y).2.1) := by
  have ht := turnB_iff.1 (h.turn hx)
  have hu := turnB_iff.1 (h.turn hy)
  unfold M.f149
  simp only [Vd.idxT hx, Vd.idxT hy, f148_eq h (show 0 ≤ (tn r x).2.2.2.1 by omega) (show (tn r x).2.2.2.1 < (r.2.2.2.1.length : Int) by omega) (show 0 ≤ (tn r y).2.1 by omega) (show (tn r y).2.1 < (r.2.2.2.1.length : Int) by omega), Option.bind_eq_bind, Option.bind_some]
  rw [← h.meL hx hy]
theorem f95_eq {x y : Int} (hx : inR r x = true) (hy : inR r y = true) : M.f95 r x y = some (foB r x y) := by
  unfold M.f95 foB
  rw [guardO_some (fun _ => Vd.idxT hx), Option.bind_eq_bind, Option.bind_some, guardO_some (fun _ => Vd.idxT hy), Option.bind_some]
  by_cases e : x = y
  · subst e; simp [guardO]
  · have e1 : (x != y) = true := by simpa using e
    simp only [e1, if_true, Bool.true_and]
    cases e2 : (tn r x).1 == (tn r y).1 with
    | false => simp [guardO]
    | true =>
      simp only [guardO, f149_eq h hx hy, M.f93, Bool.true_and]
      rfl
end
/-! ### the questions -/
section
variable {fuel : Nat} (hf : 32 < fuel)
include hf
end
end Go.Proofs.YthogdhepjcomjaaGreatDoor

/-
  What is proved: who guards, what turns cost: the program and the specification return the same.
-/
namespace Go.Proofs.YthogdhepjcomjaaGreatDoor
open Go Go.Proofs.YthogdhepjcomjaaGreatDoor.Wh

/-! ### what clocks show -/
def guB (t : S_api_Turn) (s : List Int) : Bool := decide (t.2.2.1 ≤ s.getD t.2.1.toNat 0) && decide (s.getD t.2.2.2.1.toNat 0 < t.2.2.2.2.1)
/-- The turns up to number j for which something is so. -/
def selI (p : Nat → Bool) (j : Nat) : List Int := ((List.range j).filter p).map fun k : Nat => (k : Int)
theorem selI_succ (p : Nat → Bool) (j : Nat) : selI p (j + 1) = if p j = true then selI p j ++ [(j : Int)] else selI p j := by
  unfold selI
  rw [List.range_succ, List.filter_append, List.map_append]
  cases h : p j <;> simp [h]
theorem selI_len (p : Nat → Bool) (j : Nat) : (selI p j).length ≤ j := by
  unfold selI
  rw [List.length_map]
  exact Nat.le_trans (List.length_filter_le _ _) (by simp)
theorem app_one {α : Type} {xs : List α} {x : α} (h : xs.length ≤ 4294967295) : app xs [x] = some (xs ++ [x]) := by
  unfold app; rw [if_pos (by simp; omega)]
def tnJ (r : S_api_Roster) (j : Nat) : S_api_Turn := r.2.2.2.2.getD j (0, 0, 0, 0, 0, 0)
theorem Vd.turnJ {r : S_api_Roster} (h : Vd r) {j : Nat} (hj : j < r.2.2.2.2.length) : turnB r.1 (r.2.2.2.1.length : Int) (tnJ r j) = true := h.turn (x := (j : Int)) (inR_iff.2 ⟨by omega, by omega⟩)
/-! ### what turns cost -/
def sumW (r : S_api_Roster) (l : List Int) : Nat → Int
  | 0 => 0
  | j + 1 => wr (sumW r l j + (tn r (l.getD j 0)).2.2.2.2.2)
theorem all_get {α : Type} {p : α → Bool} {l : List α} {d : α} (h : l.all p = true) {j : Nat} (hj : j < l.length) : p (l.getD j d) = true := by
  rw [List.getD_eq_getElem?_getD, List.getElem?_eq_getElem hj]
  exact List.all_eq_true.1 h _ (List.getElem_mem hj)
theorem f82_eq {r : S_api_Roster} {l : List Int} (hl : l.length ≤ 4294967296) (h : l.all (inR r) = true) : M.f82 r l = some (sumW r l l.length) := by
  unfold M.f82
  refine bnd (forS_st (fun j => sumW r l j) rfl hl fun j hj => ?_) rfl
  simp only [idx_getD (d := (0 : Int)) hj, Vd.idxT (all_get (d := 0) h hj), Option.bind_eq_bind, Option.bind_some]
  rfl
/-- Different turns, of a gate (a negative number: of any). -/
def gtB (r : S_api_Roster) (g x : Int) : Bool := inR r x && (decide (g < 0) || ((tn r x).1 == g))
def cosV (r : S_api_Roster) (l : List Int) : Int × Int := if vldB r = true then (if (l.all (inR r) && difB l) = true then (sumW r l l.length, 0) else (0, 1)) else (0, 70)
theorem f53_eq {r : S_api_Roster} {l : List Int} (hl : l.length ≤ 4294967296) : M.f53 r l = some (cosV r l) := by
  unfold M.f53 cosV
  rw [f85_eq hl]
  simp only [Option.bind_eq_bind, Option.bind_some]
  cases hv : vldB r with
  | false => rfl
  | true =>
    cases h : l.all (inR r) with
    | false => rfl
    | true =>
      simp only [if_true, f86_eq hl, Option.bind_some, bne_self_eq_false, Bool.false_eq_true, if_false, Bool.true_and]
      cases difB l with
      | false => rfl
      | true => simp [f82_eq hl h]
end Go.Proofs.YthogdhepjcomjaaGreatDoor

/-
  What is proved: the chapter's examples are as they are told; which inputs are small enough.
-/
namespace Go.Proofs.YthogdhepjcomjaaGreatDoor
open Go Go.Proofs.YthogdhepjcomjaaGreatDoor.Wh

set_option maxRecDepth 100000 in
theorem sane_any (n : Nat) : M.f16 (n + 20) = some true := by kernel_rfl
theorem sane_at {fuel : Nat} (h : 20 ≤ fuel) : M.f16 fuel = some true := by
  obtain ⟨n, rfl⟩ : ∃ n, fuel = n + 20 := ⟨fuel - 20, by omega⟩
  exact sane_any n
def fewB (r : S_api_Roster) (ls : List (List Int)) : Bool := ls.all (fun l => decide ((l.length : Int) ≤ 100)) && (decide ((r.2.2.2.1.length : Int) ≤ 100) && decide ((r.2.2.2.2.length : Int) ≤ 100))
theorem f17_eq {r : S_api_Roster} {ls : List (List Int)} (h : ls.length ≤ 4294967296) : M.f17 r ls = some (fewB r ls) := by
  unfold M.f17 fewB
  refine bnd (forM_all ls h (fun l => decide ((l.length : Int) ≤ 100)) false _ fun i x hx => ?_) ?_
  · simp only [idx_nat, hx, Option.bind_eq_bind, Option.bind_some]
    by_cases q : (x.length : Int) ≤ 100
    · rw [if_neg (by rw [decide_eq_true_eq]; omega), if_pos (by rw [decide_eq_true_eq]; omega)]
    · rw [if_pos (by rw [decide_eq_true_eq]; omega), if_neg (by rw [decide_eq_true_eq]; omega)]
  · generalize ls.all (fun l => decide ((l.length : Int) ≤ 100)) = q
    cases q <;> rfl
end Go.Proofs.YthogdhepjcomjaaGreatDoor

/-
  What is proved: how lists of turns are compared: an order by two numbers and then turn by turn.
-/
namespace Go.Proofs.YthogdhepjcomjaaGreatDoor
open Go Go.Proofs.YthogdhepjcomjaaGreatDoor.Wh

/-! ### what turns cost, as numbers -/
def cs (r : S_api_Roster) (x : Int) : Int := (tn r x).2.2.2.2.2
def csum (r : S_api_Roster) : List Int → Int
  | [] => 0
  | x :: l => cs r x + csum r l
theorem csum_app (r : S_api_Roster) : ∀ a b, csum r (a ++ b) = csum r a + csum r b
  | [], b => by simp [csum]
  | x :: a, b => by simp [csum, csum_app r a b]; omega
theorem Vd.cs {r : S_api_Roster} (h : Vd r) (x : Int) : 0 ≤ cs r x ∧ cs r x ≤ 10000 := by
  unfold Go.Proofs.YthogdhepjcomjaaGreatDoor.cs
  by_cases hx : x.toNat < r.2.2.2.2.length
  · have := turnB_iff.1 (h.turnJ hx)
    unfold tnJ at this
    unfold tn
    omega
  · unfold tn
    rw [List.getD_eq_getElem?_getD, List.getElem?_eq_none (by omega)]
    simp
theorem csum_bnd {r : S_api_Roster} (h : Vd r) : ∀ l : List Int, 0 ≤ csum r l ∧ csum r l ≤ 10000 * (l.length : Int)
  | [] => by simp [csum]
  | x :: l => by
    have := csum_bnd h l
    have := h.cs x
    simp only [csum, List.length_cons]
    omega
theorem sumW_eq {r : S_api_Roster} (h : Vd r) {l : List Int} (hl : l.length ≤ 4294967296) : ∀ j, j ≤ l.length → sumW r l j = csum r (l.take j)
  | 0, _ => by simp [sumW, csum]
  | j + 1, hj => by
    have ih := sumW_eq h hl j (by omega)
    have hx := List.getElem?_eq_getElem (show j < l.length by omega)
    have e : l.getD j 0 = l[j] := by rw [List.getD_eq_getElem?_getD, hx]; rfl
    have b1 := csum_bnd h (l.take j)
    have b2 := h.cs l[j]
    have b3 : (l.take j).length ≤ 4294967296 := by rw [List.length_take]; omega
    unfold sumW
    rw [ih, e, List.take_add_one, hx, csum_app]
    show wr (csum r (l.take j) + Go.Proofs.YthogdhepjcomjaaGreatDoor.cs r l[j]) = csum r (l.take j) + (Go.Proofs.YthogdhepjcomjaaGreatDoor.cs r l[j] + 0)
    rw [wr_id (by omega) (by omega)]; omega
theorem f82_sum {r : S_api_Roster} (h : Vd r) {l : List Int} (hl : l.length ≤ 4294967296) (ha : l.all (inR r) = true) : M.f82 r l = some (csum r l) := by
  rw [f82_eq hl ha, sumW_eq h hl l.length (Nat.le_refl _), List.take_length]

/-! ### comparisons -/
def cmpI (x y : Int) : Int := if x < y then -1 else if y < x then 1 else 0
theorem f142_eq (x y : Int) : M.f142 x y = some (cmpI x y) := by
  unfold M.f142 M.f162 cmpI
  simp only [Option.bind_eq_bind, Option.bind_some, bne_self_eq_false, Bool.false_eq_true, if_false]
  by_cases h1 : x < y
  · simp [h1]
  · by_cases h2 : y < x <;> simp [h1, h2]
def lexI : List Int → List Int → Int
  | [], [] => 0
  | [], _ :: _ => -1
  | _ :: _, [] => 1
  | x :: a, y :: b => if x < y then -1 else if y < x then 1 else lexI a b
def lexL (a b : List Int) (j : Nat) : Option Int := if b.length ≤ j then some 1 else if cmpI (a.getD j 0) (b.getD j 0) = 0 then none else some (cmpI (a.getD j 0) (b.getD j 0))
theorem lexI_eq : ∀ a b : List Int, lexI a b = match (List.range a.length).findSome? (lexL a b) with | none => if a.length < b.length then -1 else 0 | some r => r
  | [], [] => rfl
  | [], y :: b => by simp [lexI]
  | x :: a, [] => by
    rw [List.length_cons, List.range_succ_eq_map, List.findSome?_cons]
    simp [lexI, lexL]
  | x :: a, y :: b => by
    rw [List.length_cons, List.range_succ_eq_map, List.findSome?_cons]
    have ih := lexI_eq a b
    have e : lexL (x :: a) (y :: b) 0 = if cmpI x y = 0 then none else some (cmpI x y) := by simp [lexL]
    have e2 : (lexL (x :: a) (y :: b)) ∘ Nat.succ = lexL a b := by
      funext j
      simp [lexL]
    rw [e, List.findSome?_map, e2]
    unfold lexI
    by_cases h1 : x < y
    · have : cmpI x y = -1 := by simp [cmpI, h1]
      simp [h1, this]
    · by_cases h2 : y < x
      · have : cmpI x y = 1 := by simp [cmpI, h1, h2]
        simp [h1, h2, this]
      · have : cmpI x y = 0 := by simp [cmpI, h1, h2]
        simp only [h1, h2, this, if_true, if_false]
        rw [ih]
        simp
theorem f143_eq {a b : List Int} (ha : a.length ≤ 4294967296) : M.f143 a b = some (lexI a b) := by
  unfold M.f143
  rw [lexI_eq]
  refine bnd (forM_st (fun _ => ()) (lexL a b) rfl ha fun j hj _ => ?_) ?_
  · unfold lexL
    simp only [idx_getD (d := (0 : Int)) hj, Option.bind_eq_bind, Option.bind_some]
    by_cases h1 : b.length ≤ j
    · have : decide ((b.length : Int) ≤ (j : Int)) = true := by simpa using h1
      simp [h1]
    · have : decide ((b.length : Int) ≤ (j : Int)) = false := by simp; omega
      simp only [this, h1, Bool.false_eq_true, if_false, idx_getD (d := (0 : Int)) (show j < b.length by omega), Option.bind_some, f142_eq]
      by_cases h2 : cmpI (a.getD j 0) (b.getD j 0) = 0
      · rw [h2]; rfl
      · rw [if_neg h2, if_pos (by simpa using h2)]
  · cases h : (List.range a.length).findSome? (lexL a b) with
    | none =>
      simp only [Out.elim]
      by_cases q : a.length < b.length
      · rw [if_pos (by simpa using q), if_pos q]
      · rw [if_neg (by simpa using q), if_neg q]
    | some v => rfl
theorem f141_three (x y z : Int) : M.f141 [x, y, z] = some (if x ≠ 0 then x else if y ≠ 0 then y else z) := by
  unfold M.f141
  by_cases h1 : x = 0
  · by_cases h2 : y = 0
    · by_cases h3 : z = 0
      · subst h1; subst h2; subst h3; rfl
      · subst h1; subst h2
        simp [Wh.forM, forFrom, idx, Out.elim, h3]
    · subst h1
      simp [Wh.forM, forFrom, idx, Out.elim, h2]
  · simp [Wh.forM, forFrom, idx, Out.elim, h1]
/-- By two numbers, then turn by turn. -/
def cc (u v : List Int → Int) (a b : List Int) : Int := if cmpI (u a) (u b) ≠ 0 then cmpI (u a) (u b) else if cmpI (v a) (v b) ≠ 0 then cmpI (v a) (v b) else lexI a b
def lenI (a : List Int) : Int := (a.length : Int)
theorem f140_eq {r : S_api_Roster} (h : Vd r) {a b : List Int} (ha : a.length ≤ 4294967296) (hb : b.length ≤ 4294967296) (ra : a.all (inR r) = true) (rb : b.all (inR r) = true) : M.f140 a b r = some (cc (csum r) lenI a b) := by
  unfold M.f140
  simp only [f82_sum h ha ra, f82_sum h hb rb, f142_eq, f143_eq ha, f141_three, Option.bind_eq_bind, Option.bind_some]
  rfl
theorem cmpI_lt {x y : Int} : cmpI x y < 0 ↔ x < y := by unfold cmpI; split <;> (try split) <;> omega
theorem cmpI_zero {x y : Int} : cmpI x y = 0 ↔ x = y := by unfold cmpI; split <;> (try split) <;> omega
theorem cmpI_gt {x y : Int} : 0 < cmpI x y ↔ y < x := by unfold cmpI; split <;> (try split) <;> omega
theorem lexI_refl : ∀ a, lexI a a = 0
  | [] => rfl
  | x :: a => by simp [lexI, lexI_refl a]
theorem lexI_swap : ∀ a b, lexI b a = - lexI a b
  | [], [] => rfl
  | [], _ :: _ => rfl
  | _ :: _, [] => rfl
  | x :: a, y :: b => by
    unfold lexI
    by_cases h1 : x < y
    · simp [h1, show ¬ y < x by omega]
    · by_cases h2 : y < x
      · simp [h1, h2]
      · simp [h1, h2, lexI_swap a b]
theorem lexI_eqZ : ∀ {a b}, lexI a b = 0 → a = b
  | [], [], _ => rfl
  | [], _ :: _, h => by simp [lexI] at h
  | _ :: _, [], h => by simp [lexI] at h
  | x :: a, y :: b, h => by
    unfold lexI at h
    split at h
    · cases h
    · split at h
      · cases h
      · rw [lexI_eqZ h, show x = y by omega]
theorem lexI_trans : ∀ {a b d}, lexI a b ≤ 0 → lexI b d ≤ 0 → lexI a d ≤ 0
  | [], _, [], _, _ => by simp [lexI]
  | [], _, _ :: _, _, _ => by simp [lexI]
  | _ :: _, [], _, h, _ => by simp [lexI] at h
  | x :: a, y :: b, [], _, h => by simp [lexI] at h
  | x :: a, y :: b, z :: d, h, k => by
    unfold lexI at *
    split at h
    · split at k
      · rw [if_pos (by omega)]; omega
      · split at k
        · omega
        · rw [if_pos (by omega)]; omega
    · split at h
      · omega
      · split at k
        · rw [if_pos (by omega)]; omega
        · split at k
          · omega
          · rw [if_neg (by omega), if_neg (by omega)]
            exact lexI_trans h k
theorem lexI_app : ∀ {a b : List Int} {x : Int}, a.length = b.length → lexI a b ≤ 0 → lexI (a ++ [x]) (b ++ [x]) ≤ 0
  | [], [], x, _, _ => by simp [lexI]
  | [], _ :: _, _, h, _ => by simp at h
  | _ :: _, [], _, h, _ => by simp at h
  | y :: a, z :: b, x, hl, h => by
    show lexI (y :: (a ++ [x])) (z :: (b ++ [x])) ≤ 0
    unfold lexI at *
    split
    · omega
    · split
      · rename_i q1 q2; rw [if_neg q1, if_pos q2] at h; omega
      · rename_i q1 q2
        rw [if_neg q1, if_neg q2] at h
        exact lexI_app (by simpa using hl) h
theorem cc_le {u v : List Int → Int} {a b : List Int} : cc u v a b ≤ 0 ↔ u a < u b ∨ (u a = u b ∧ (v a < v b ∨ (v a = v b ∧ lexI a b ≤ 0))) := by
  unfold cc
  have h1 := cmpI_lt (x := u a) (y := u b); have h2 := cmpI_zero (x := u a) (y := u b); have h3 := cmpI_gt (x := u a) (y := u b)
  have k1 := cmpI_lt (x := v a) (y := v b); have k2 := cmpI_zero (x := v a) (y := v b); have k3 := cmpI_gt (x := v a) (y := v b)
  split
  · omega
  · split <;> omega
theorem cc_lt {u v : List Int → Int} {a b : List Int} : cc u v a b < 0 ↔ u a < u b ∨ (u a = u b ∧ (v a < v b ∨ (v a = v b ∧ lexI a b < 0))) := by
  unfold cc
  have h1 := cmpI_lt (x := u a) (y := u b); have h2 := cmpI_zero (x := u a) (y := u b); have h3 := cmpI_gt (x := u a) (y := u b)
  have k1 := cmpI_lt (x := v a) (y := v b); have k2 := cmpI_zero (x := v a) (y := v b); have k3 := cmpI_gt (x := v a) (y := v b)
  split
  · omega
  · split <;> omega
/-- An order of lists that grows with them. -/
structure Ord (c : List Int → List Int → Int) : Prop where
  refl : ∀ a, c a a ≤ 0
  total : ∀ {a b}, ¬ c a b ≤ 0 → c b a < 0
  trans : ∀ {a b d}, c a b ≤ 0 → c b d ≤ 0 → c a d ≤ 0
  anti : ∀ {a b}, c a b ≤ 0 → c b a ≤ 0 → a = b
  app : ∀ {a b x}, c a b ≤ 0 → c (a ++ [x]) (b ++ [x]) ≤ 0
  pre : ∀ {p q : List Int}, q ≠ [] → c p (p ++ q) < 0
  strict : ∀ {a b}, c a b < 0 → ¬ c b a ≤ 0
theorem cc_ord {u v : List Int → Int} (hu : ∀ a x, ∃ k, u (a ++ [x]) = u a + k ∧ ∀ b, u (b ++ [x]) = u b + k) (hv : ∀ a x, ∃ k, v (a ++ [x]) = v a + k ∧ ∀ b, v (b ++ [x]) = v b + k)
    (hl : ∀ a b : List Int, u a = u b → v a = v b → a.length = b.length) (hp : ∀ p q : List Int, q ≠ [] → u p < u (p ++ q) ∨ (u p = u (p ++ q) ∧ v p < v (p ++ q))) : Ord (cc u v) where
  refl a := by rw [cc_le]; exact .inr ⟨rfl, .inr ⟨rfl, by rw [lexI_refl]; omega⟩⟩
  total {a b} h := by
    rw [cc_le] at h
    rw [cc_lt]
    have := lexI_swap a b
    omega
  trans {a b d} h k := by
    rw [cc_le] at *
    have := @lexI_trans a b d
    omega
  anti {a b} h k := by
    rw [cc_le] at *
    have := lexI_swap a b
    exact lexI_eqZ (by omega)
  app {a b x} h := by
    rw [cc_le] at *
    obtain ⟨k, h1, h2⟩ := hu a x
    obtain ⟨k', h3, h4⟩ := hv a x
    rw [h1, h2 b, h3, h4 b]
    rcases h with h | ⟨h, h' | ⟨h', h''⟩⟩
    · exact .inl (by omega)
    · exact .inr ⟨by omega, .inl (by omega)⟩
    · exact .inr ⟨by omega, .inr ⟨by omega, lexI_app (hl a b h h') h''⟩⟩
  pre {p q} hq := by
    rw [cc_lt]
    rcases hp p q hq with h | ⟨h, h'⟩
    · exact .inl h
    · exact .inr ⟨h, .inl h'⟩
  strict {a b} h k := by
    rw [cc_lt] at h
    rw [cc_le] at k
    have := lexI_swap a b
    omega
section
variable {r : S_api_Roster} (h : Vd r)
include h
theorem by_ord : Ord (cc (csum r) lenI) := by
  refine cc_ord (fun a x => ⟨Go.Proofs.YthogdhepjcomjaaGreatDoor.cs r x, ?_, fun b => ?_⟩) (fun a x => ⟨1, by simp [lenI], fun b => by simp [lenI]⟩) (fun a b _ e => by unfold lenI at e; omega) (fun p q hq => ?_)
  · rw [csum_app]; simp [csum]
  · rw [csum_app]; simp [csum]
  · have := (csum_bnd h q).1
    have hl : 0 < q.length := List.length_pos_iff.2 hq
    rw [csum_app]
    have e : lenI (p ++ q) = lenI p + (q.length : Int) := by simp [lenI]
    rw [e]
    omega
end
end Go.Proofs.YthogdhepjcomjaaGreatDoor
