/-
  What is proved: which rosters are valid: the program's check and the specification's are the same test.
-/
import Derived.Test.YthogdhepjcomjaaGreatDoorModelE
import Derived.Test.YthogdhepjcomjaaGreatDoorPlain
import Derived.KernelRfl
namespace Go.Proofs.YthogdhepjcomjaaGreatDoor
open Go Go.Proofs.YthogdhepjcomjaaGreatDoor.Wh

theorem f99_eq (x a b : Int) : M.f99 x a b = some (decide (a ≤ x) && decide (x ≤ b)) := rfl
theorem guardO_bool (G v : Bool) : guardO G (some v) = some (G && v) := by cases G <;> rfl
theorem guardO_t {α : Type} [Inhabited α] {x : Option α} : guardO true x = x := rfl
theorem guardO_f {α : Type} [Inhabited α] {x : Option α} : guardO false x = some default := rfl
theorem idx_getD {α : Type} {xs : List α} {d : α} {j : Nat} (h : j < xs.length) : idx xs (j : Int) = some (xs.getD j d) := by
  rw [idx_nat, List.getD_eq_getElem?_getD, List.getElem?_eq_getElem h]; rfl
theorem idx_getI {α : Type} {xs : List α} {d : α} {k : Int} (h0 : 0 ≤ k) (h : k < (xs.length : Int)) : idx xs k = some (xs.getD k.toNat d) := by
  obtain ⟨j, rfl⟩ : ∃ j : Nat, k = (j : Int) := ⟨k.toNat, by omega⟩
  simpa using idx_getD (d := d) (by omega)

theorem all_take {α : Type} {xs : List α} {q : α → Bool} {j : Nat} {x : α} (h : xs[j]? = some x) : (xs.take (j + 1)).all q = ((xs.take j).all q && q x) := by
  rw [List.take_add_one, List.all_append, h]
  simp
/-- A loop that leaves at the first that is not so. -/
theorem forM_all {α ρ : Type} (xs : List α) (hx : xs.length ≤ 4294967296) (q : α → Bool) (r : ρ) (f : Int → Unit → Option (Out Unit ρ)) (h : ∀ (i : Nat) (x : α), xs[i]? = some x → f (i : Int) () = some (if q x = true then .again () else .leave r)) :
    forM 0 (xs.length : Int) () f = some (if xs.all q = true then .again () else .leave r) := by
  obtain ⟨o, h1, h2⟩ := forM_inv (f := f) (fun j (_ : Unit) => (xs.take j).all q = true) (fun r' => r' = r ∧ xs.all q = false) hx (s := ()) (by simp) fun j s hj hs => by
    have hx' := List.getElem?_eq_getElem hj
    refine ⟨_, h j xs[j] hx', ?_⟩
    cases hq : q xs[j] with
    | true =>
      simp only [if_true, OutP]
      rw [all_take hx', hs, hq]; rfl
    | false =>
      simp only [Bool.false_eq_true, if_false, OutP, true_and]
      rw [List.all_eq_false]
      exact ⟨xs[j], by simp, by simp [hq]⟩
  rw [h1]
  cases o with
  | again s =>
    simp only [OutP, List.take_length] at h2
    rw [if_pos h2]
  | leave r' =>
    obtain ⟨rfl, h3⟩ := h2
    rw [h3]; rfl
theorem loopM_all {α ρ : Type} (xs : List α) (q : α → Bool) (r d : ρ) (fuel : Nat) (hf : xs.length < fuel) (f : Int → Option (Out Int ρ)) (h : ∀ (i : Nat) (x : α), xs[i]? = some x → f (i : Int) = some (if q x = true then .again ((i + 1 : Nat) : Int) else .leave r)) (he : f (xs.length : Int) = some (.leave d)) :
    loopM f fuel 0 = some (if xs.all q = true then d else r) := by
  obtain ⟨r', h1, h2⟩ := loopM_inv (f := f) (fun m s => m ≤ xs.length ∧ s = ((xs.length - m : Nat) : Int) ∧ (xs.take (xs.length - m)).all q = true) (fun r' => r' = if xs.all q = true then d else r) fuel xs.length 0 hf ⟨Nat.le_refl _, by simp, by simp⟩ fun m s ⟨hm, hs, ha⟩ => by
    subst hs
    cases m with
    | zero =>
      refine ⟨_, he, ?_⟩
      simp only [Nat.sub_zero, List.take_length] at ha
      simp [OutP, ha]
    | succ m =>
      have hj : xs.length - (m + 1) < xs.length := by omega
      have hx' := List.getElem?_eq_getElem hj
      refine ⟨_, h _ _ hx', ?_⟩
      cases hq : q xs[xs.length - (m + 1)] with
      | true =>
        simp only [if_true, OutP]
        refine ⟨m, by omega, by omega, ?_, ?_⟩
        · rw [show xs.length - (m + 1) + 1 = xs.length - m from by omega]
        · rw [show xs.length - m = (xs.length - (m + 1)) + 1 from by omega, all_take hx', ha, hq]; rfl
      | false =>
        simp only [Bool.false_eq_true, if_false, OutP]
        rw [if_neg]
        rw [Bool.not_eq_true, List.all_eq_false]
        exact ⟨_, List.getElem_mem hj, by simp [hq]⟩
  rw [h1, h2]

/-! ### what is valid -/
def ahd (r : S_api_Roster) (a b : Nat) : Int := (r.2.2.2.1.getD a []).getD b 0
def hdB (r : S_api_Roster) : Bool := decide (1 ≤ r.1 ∧ r.1 ≤ 8 ∧ 0 ≤ r.2.1 ∧ r.2.1 < r.2.2.1 ∧ r.2.2.1 ≤ 16777216 ∧ 1 ≤ (r.2.2.2.1.length : Int) ∧ (r.2.2.2.1.length : Int) ≤ 8 ∧ (r.2.2.2.2.length : Int) ≤ 24)
def rowB (n j : Nat) (l : List Int) : Bool := decide (l.length = n) && (List.range n).all fun b => decide (-1048576 ≤ l.getD b 0) && decide (l.getD b 0 ≤ 1048576) && (decide (j ≠ b) || decide (l.getD b 0 = 0))
def rowsB (r : S_api_Roster) : Bool := (List.range r.2.2.2.1.length).all fun j => rowB r.2.2.2.1.length j (r.2.2.2.1.getD j [])
def trB (n : Nat) (F : Nat → Nat → Int) : Bool := (List.range n).all fun a => (List.range n).all fun b => (List.range n).all fun c => decide (F a c ≤ F a b + F b c)
def turnB (g n : Int) (t : S_api_Turn) : Bool := decide (0 ≤ t.1 ∧ t.1 < g ∧ 0 ≤ t.2.1 ∧ t.2.1 < n ∧ 0 ≤ t.2.2.2.1 ∧ t.2.2.2.1 < n ∧ 0 ≤ t.2.2.1 ∧ t.2.2.1 ≤ 16777216 ∧ 0 ≤ t.2.2.2.2.1 ∧ t.2.2.2.2.1 ≤ 16777216 ∧ 0 ≤ t.2.2.2.2.2 ∧ t.2.2.2.2.2 ≤ 10000)
def turnsB (r : S_api_Roster) : Bool := r.2.2.2.2.all fun t => turnB r.1 (r.2.2.2.1.length : Int) t
def vldB (r : S_api_Roster) : Bool := hdB r && rowsB r && trB r.2.2.2.1.length (ahd r) && turnsB r

/-! ### the matrix -/
def matV (F : Nat → Nat → Int) : Vector (Vector Int 8) 8 := Vector.ofFn fun a => Vector.ofFn fun b => F a.1 b.1
theorem idxA_ofFn {α : Type} {n : Nat} {g : Fin n → α} {i : Nat} (hi : i < n) : idxA (Vector.ofFn g) (i : Int) = some (g ⟨i, hi⟩) := by
  unfold idxA
  rw [idx_nat, List.getElem?_eq_getElem (by simpa using hi)]
  simp
theorem setA_ofFn {α : Type} {n : Nat} {g : Fin n → α} {i : Nat} {z : α} (hi : i < n) : setA (Vector.ofFn g) (i : Int) z = some (Vector.ofFn fun k => if k.1 = i then z else g k) := by
  unfold setA
  rw [dif_pos ⟨by omega, by simpa using hi⟩]
  congr 1
  apply Vector.ext
  intro k hk
  simp only [Int.toNat_natCast, Vector.getElem_set, Vector.getElem_ofFn]
  by_cases e : i = k
  · subst e; simp
  · rw [if_neg e, if_neg (fun h => e h.symm)]
theorem matV_get {F : Nat → Nat → Int} {a b : Nat} (ha : a < 8) (hb : b < 8) : (matV F)[a][b] = F a b := by simp [matV]
theorem matV_inj {F G : Nat → Nat → Int} : matV F = matV G ↔ ∀ a b, a < 8 → b < 8 → F a b = G a b := by
  constructor
  · intro h a b ha hb
    rw [← matV_get (F := F) ha hb, h, matV_get ha hb]
  · intro h
    unfold matV
    congr 1
    funext a
    congr 1
    funext b
    exact h a.1 b.1 a.2 b.2
def cpm (Ah : List (List Int)) (k : Nat) : Nat → Nat → Int := fun a b => if a < k then (Ah.getD a []).getD b 0 else 0
theorem copyA_ofFn {g : Fin 8 → Int} {l : List Int} (h0 : ∀ k, g k = 0) : copyA (Vector.ofFn g) l = Vector.ofFn fun k => l.getD k.1 0 := by
  apply Vector.ext
  intro k hk
  have e : (copyA (Vector.ofFn g) l).toList[k]? = some (l.getD k 0) := by
    have : (copyA (Vector.ofFn g) l).toList = l.take 8 ++ (Vector.ofFn g).toList.drop (l.take 8).length := by unfold copyA; simp [Vector.toList]
    rw [this, List.getElem?_append]
    split
    · rename_i hlt
      rw [List.getElem?_take, if_pos hk, List.getD_eq_getElem?_getD]
      have : k < l.length := by simp at hlt; omega
      rw [List.getElem?_eq_getElem this]; rfl
    · rename_i hge
      have hl : l.length ≤ k := by simp at hge; omega
      have hm : (l.take 8).length = l.length := by simp; omega
      rw [hm, List.getElem?_drop, show l.length + (k - l.length) = k from by omega]
      rw [List.getElem?_eq_getElem (by simpa using hk), List.getD_eq_getElem?_getD, List.getElem?_eq_none hl]
      simp [h0]
  have e2 : (copyA (Vector.ofFn g) l).toList[k]? = some (copyA (Vector.ofFn g) l)[k] := by
    rw [List.getElem?_eq_getElem (by simpa using hk)]; simp
  rw [e2] at e
  simp only [Option.some.injEq] at e
  rw [e]; simp
theorem f121_eq {Ah : List (List Int)} (h : Ah.length ≤ 8) : M.f121 Ah = some (matV fun a b => (Ah.getD a []).getD b 0) := by
  unfold M.f121
  have h0 : (Vector.replicate 8 (#v[0, 0, 0, 0, 0, 0, 0, 0] : Vector Int 8)) = matV (cpm Ah 0) := by
    have : (cpm Ah 0) = fun _ _ => 0 := by funext a b; simp [cpm]
    rw [this]; decide
  rw [forS_st (fun k => matV (cpm Ah k)) h0.symm (by omega) (fun j hj => ?_)]
  · simp only [Option.bind_eq_bind, Option.bind_some, Option.some.injEq]
    rw [matV_inj]
    intro a b _ _
    unfold cpm
    split
    · rfl
    · rename_i hge
      have : Ah.getD a [] = [] := by rw [List.getD_eq_getElem?_getD, List.getElem?_eq_none (by omega)]; rfl
      rw [this]; rfl
  · have hj8 : j < 8 := by omega
    have e1 : idxA (matV (cpm Ah j)) (j : Int) = some (Vector.ofFn fun b => cpm Ah j j b.1) := idxA_ofFn hj8
    rw [e1, idx_getD (d := []) hj]
    simp only [Option.bind_eq_bind, Option.bind_some]
    rw [copyA_ofFn (fun k => by simp [cpm])]
    have e2 := setA_ofFn (g := fun a : Fin 8 => Vector.ofFn fun b : Fin 8 => cpm Ah j a.1 b.1) (z := Vector.ofFn fun k : Fin 8 => (Ah.getD j []).getD k.1 0) hj8
    show (setA (matV (cpm Ah j)) (j : Int) _).bind _ = _
    rw [show matV (cpm Ah j) = Vector.ofFn (fun a : Fin 8 => Vector.ofFn fun b : Fin 8 => cpm Ah j a.1 b.1) from rfl, e2]
    simp only [Option.bind_some, Option.some.injEq]
    unfold matV
    congr 1
    funext a
    by_cases e : a.1 = j
    · rw [if_pos e]
      congr 1
      funext b
      unfold cpm
      rw [if_pos (by omega), e]
    · rw [if_neg e]
      congr 1
      funext b
      unfold cpm
      by_cases h1 : a.1 < j
      · rw [if_pos h1, if_pos (by omega)]
      · rw [if_neg h1, if_neg (by omega)]

def hm (x y z : Int) : Int := imin x (wr (y + z))
theorem imin_le (x y : Int) : imin x y ≤ x := by unfold imin; split <;> omega
theorem stp_V {F : Nat → Nat → Int} {a b : Nat} {z : Int} (ha : a < 8) (hb : b < 8) : ((setA (Vector.ofFn fun k : Fin 8 => F a k.1) (b : Int) z) >>= fun z1 => setA (matV F) (a : Int) z1) = some (matV (updM F a b z)) := by
  rw [setA_ofFn hb]
  simp only [Option.bind_eq_bind, Option.bind_some]
  have e2 := setA_ofFn (g := fun a : Fin 8 => Vector.ofFn fun b : Fin 8 => F a.1 b.1) (z := Vector.ofFn fun k : Fin 8 => if k.1 = b then z else F a k.1) ha
  rw [show matV F = Vector.ofFn (fun a : Fin 8 => Vector.ofFn fun b : Fin 8 => F a.1 b.1) from rfl, e2]
  congr 1
  unfold matV updM
  congr 1
  funext x
  by_cases e : x.1 = a
  · rw [if_pos e]
    congr 1
    funext y
    by_cases e1 : y.1 = b
    · rw [if_pos e1, if_pos ⟨e, e1⟩]
    · rw [if_neg e1, if_neg (fun q => e1 q.2), e]
  · rw [if_neg e]
    congr 1
    funext y
    rw [if_neg (fun q => e q.1)]
theorem f122_eq {n : Nat} (hn : n ≤ 8) (F : Nat → Nat → Int) : M.f122 (matV F) (n : Int) = some (matV (cls hm n F)) := by
  unfold M.f122
  refine bnd (y := matV (cls hm n F)) ?_ rfl
  refine forS_map (fun c F => phs hm n c F) matV (by omega) fun c F hc => ?_
  refine bnd (y := matV (phs hm n c F)) ?_ rfl
  refine forS_map (fun a F => rowp hm n c a F) matV (by omega) fun a F ha => ?_
  refine bnd (y := matV (rowp hm n c a F)) ?_ rfl
  refine forS_map (fun b F => stp hm c a b F) matV (by omega) fun b F hb => ?_
  have h1 : ∀ x : Nat, x < 8 → idxA (matV F) (x : Int) = some (Vector.ofFn fun k : Fin 8 => F x k.1) := fun x hx => idxA_ofFn hx
  have h2 : ∀ x y : Nat, x < 8 → y < 8 → idxA (Vector.ofFn fun k : Fin 8 => F x k.1) (y : Int) = some (F x y) := fun x y hx hy => idxA_ofFn hy
  simp only [h1 a (by omega), h1 c (by omega), h2 a b (by omega) (by omega), h2 a c (by omega) (by omega), h2 c b (by omega) (by omega), Option.bind_eq_bind, Option.bind_some]
  have := stp_V (F := F) (z := hm (F a b) (F a c) (F c b)) (show a < 8 by omega) (show b < 8 by omega)
  simp only [Option.bind_eq_bind] at this
  unfold hm at this
  rw [setA_ofFn (show b < 8 by omega)] at this ⊢
  simp only [Option.bind_some] at this ⊢
  rw [this]
  rfl

/-! ### closed or not -/
def leM (F G : Nat → Nat → Int) : Prop := ∀ a b, F a b ≤ G a b
theorem leM.trans {F G H : Nat → Nat → Int} (h : leM F G) (k : leM G H) : leM F H := fun a b => Int.le_trans (h a b) (k a b)
theorem leM.anti {F G : Nat → Nat → Int} (h : leM F G) (k : leM G F) : F = G := by funext a b; exact Int.le_antisymm (h a b) (k a b)
theorem itr_le {g : Nat → (Nat → Nat → Int) → (Nat → Nat → Int)} (h : ∀ k F, leM (g k F) F) (F : Nat → Nat → Int) : ∀ n, leM (itr g n F) F
  | 0 => fun _ _ => Int.le_refl _
  | n + 1 => (h n _).trans (itr_le h F n)
theorem itr_fix {g : Nat → (Nat → Nat → Int) → (Nat → Nat → Int)} (h : ∀ k F, leM (g k F) F) {F : Nat → Nat → Int} : ∀ {n}, itr g n F = F → ∀ j, j < n → g j F = F
  | n + 1, e, j, hj => by
    have e1 : itr g n F = F := leM.anti (itr_le h F n) (by
      have := h n (itr g n F)
      have e' : g n (itr g n F) = F := e
      rw [e'] at this
      exact this)
    have e2 : g n F = F := by
      have e' : g n (itr g n F) = F := e
      rwa [e1] at e'
    rcases Nat.lt_or_ge j n with q | q
    · exact itr_fix h e1 j q
    · have : j = n := by omega
      subst this; exact e2
theorem itr_stay {g : Nat → (Nat → Nat → Int) → (Nat → Nat → Int)} {F : Nat → Nat → Int} : ∀ {n}, (∀ j, j < n → g j F = F) → itr g n F = F
  | 0, _ => rfl
  | n + 1, h => by
    show g n (itr g n F) = F
    rw [itr_stay fun j hj => h j (by omega)]
    exact h n (by omega)
theorem stp_le (c a b : Nat) (F : Nat → Nat → Int) : leM (stp hm c a b F) F := fun x y => by
  unfold stp updM
  split
  · rename_i e
    rw [e.1, e.2]
    exact imin_le _ _
  · exact Int.le_refl _
theorem rowp_le (n c a : Nat) (F : Nat → Nat → Int) : leM (rowp hm n c a F) F := itr_le (fun b F => stp_le c a b F) F n
theorem phs_le (n c : Nat) (F : Nat → Nat → Int) : leM (phs hm n c F) F := itr_le (fun a F => rowp_le n c a F) F n
theorem itr_out {g : Nat → (Nat → Nat → Int) → (Nat → Nat → Int)} {p : Nat → Nat → Prop} (h : ∀ k F x y, p x y → g k F x y = F x y) (F : Nat → Nat → Int) {x y : Nat} (hp : p x y) : ∀ n, itr g n F x y = F x y
  | 0 => rfl
  | n + 1 => by
    show g n (itr g n F) x y = F x y
    rw [h n _ x y hp]
    exact itr_out h F hp n
theorem itr_outN {n : Nat} {g : Nat → (Nat → Nat → Int) → (Nat → Nat → Int)} {x y : Nat} (h : ∀ k F, k < n → g k F x y = F x y) (F : Nat → Nat → Int) : ∀ m, m ≤ n → itr g m F x y = F x y
  | 0, _ => rfl
  | m + 1, hm => by
    show g m (itr g m F) x y = F x y
    rw [h m _ (by omega)]
    exact itr_outN h F m (by omega)
theorem cls_out {n : Nat} {F : Nat → Nat → Int} {x y : Nat} (h : n ≤ x ∨ n ≤ y) : cls hm n F x y = F x y := by
  refine itr_outN (n := n) (fun c F _ => ?_) F n (Nat.le_refl _)
  refine itr_outN (n := n) (fun a F ha => ?_) F n (Nat.le_refl _)
  refine itr_outN (n := n) (fun b F hb => ?_) F n (Nat.le_refl _)
  unfold stp updM
  rw [if_neg (by omega)]
/-- It is closed just if no way by a third place is shorter. -/
theorem cls_iff {n : Nat} {F : Nat → Nat → Int} (hn : n ≤ 8) (hF : ∀ a b, a < n → b < n → -1048576 ≤ F a b ∧ F a b ≤ 1048576) : (matV F = matV (cls hm n F)) ↔ trB n F = true := by
  have hw : ∀ a b c, a < n → b < n → c < n → wr (F a b + F b c) = F a b + F b c := fun a b c ha hb hc => by
    have := hF a b ha hb; have := hF b c hb hc
    exact wr_id (by omega) (by omega)
  have ht : trB n F = true ↔ ∀ a b c, a < n → b < n → c < n → F a c ≤ F a b + F b c := by
    unfold trB
    simp only [List.all_eq_true, List.mem_range, decide_eq_true_eq]
    exact ⟨fun h a b c ha hb hc => h a ha b hb c hc, fun h a ha b hb c hc => h a b c ha hb hc⟩
  rw [ht, matV_inj]
  constructor
  · intro h
    have e : cls hm n F = F := by
      funext x y
      by_cases hx : x < 8 ∧ y < 8
      · exact (h x y hx.1 hx.2).symm
      · exact cls_out (by omega)
    intro a b c ha hb hc
    have e1 := itr_fix (fun c F => phs_le n c F) e b hb
    have e2 := itr_fix (fun a F => rowp_le n b a F) e1 a ha
    have e3 := itr_fix (fun c F => stp_le b a c F) e2 c hc
    have e4 : hm (F a c) (F a b) (F b c) = F a c := by
      have := congrFun (congrFun e3 a) c
      unfold stp updM at this
      rwa [if_pos ⟨rfl, rfl⟩] at this
    unfold hm imin at e4
    rw [hw a b c ha hb hc] at e4
    split at e4 <;> omega
  · intro h
    have e : cls hm n F = F := itr_stay fun b hb => itr_stay fun a ha => itr_stay fun c hc => by
      funext x y
      show updM F a c (hm (F a c) (F a b) (F b c)) x y = F x y
      unfold updM
      split
      · rename_i q
        rw [q.1, q.2]
        have := h a b c ha hb hc
        unfold hm imin
        rw [hw a b c ha hb hc]
        split <;> omega
      · rfl
    intro a b _ _
    rw [e]
end Go.Proofs.YthogdhepjcomjaaGreatDoor
