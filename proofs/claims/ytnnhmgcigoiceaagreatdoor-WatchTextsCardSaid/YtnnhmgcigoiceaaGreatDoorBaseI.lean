/-
  What is proved: arrays as values: built out of their elements, empty, and read.
  regions that lay variables in memory and set them once, in any order among operations that change nothing that was there.
  variables of the call's own that hold headers of own slices: places in them, what is set there, what is read.
  calls that change what they are handed: a callee's things lie ahead of a frame that it does not know; the order of things does not matter.
  elements of arrays of the call's own that are set; own slices cut short; function values that hold the place of their own variable.
-/
import Derived.Test.YtnnhmgcigoiceaaGreatDoorBaseD
namespace Go.Proofs.YtnnhmgcigoiceaaGreatDoor.Wh
open Go Go.RowKit
section
variable {P : Program} {Γ : List (Nat × Pr)} {ty : TypeId}
end
end Go.Proofs.YtnnhmgcigoiceaaGreatDoor.Wh

namespace Go.Proofs.YtnnhmgcigoiceaaGreatDoor.Wh
open Go Go.RowKit

def Item.void : Item := ⟨fun _ => false, fun _ _ => True, fun h _ _ _ => h⟩
/-- A variable that a region lays (operation ai, slot d) and sets (operation si). -/
structure PairS where
  ai : Nat
  si : Nat
  d : Nat
  T : TypeId
  α : Type
  enc : Enc α
  x0 : α
  x : α
def PairS.item (p : PairS) (s : Option Nat × Bool) : Item := match s with
  | (none, _) => Item.void
  | (some b, false) => @Item.box p.α p.enc p.T b p.x0
  | (some b, true) => @Item.box p.α p.enc p.T b p.x
def itemsP (ps : List PairS) (ss : List (Option Nat × Bool)) : List Item := List.zipWith PairS.item ps ss
def PairS.nums (p : PairS) : Nat × Nat × Nat := (p.ai, p.si, p.d)
def nodupB (l : List Nat) : Bool := match l with | [] => true | x :: r => !(r.contains x) && nodupB r
theorem nodupB_at : ∀ {l : List Nat}, nodupB l = true → ∀ {i j x : Nat}, l[i]? = some x → l[j]? = some x → i = j
  | [], _, i, j, x, hi, _ => by simp at hi
  | y :: r, h, i, j, x, hi, hj => by
    unfold nodupB at h
    rw [Bool.and_eq_true] at h
    cases i with
    | zero =>
      cases j with
      | zero => rfl
      | succ j =>
        simp at hi hj
        subst hi
        have := List.mem_of_getElem? hj
        simp [this] at h
    | succ i =>
      cases j with
      | zero =>
        simp at hi hj
        subst hj
        have := List.mem_of_getElem? hi
        simp [this] at h
      | succ j =>
        have := nodupB_at h.2 (i := i) (j := j) (x := x) (by simpa using hi) (by simpa using hj)
        omega
def pairsOK (ks : List Nat) (ops : Array Oper) (pn : List (Nat × Nat × Nat)) : Bool :=
  nodupB (pn.map (·.1)) && nodupB (pn.map (·.2.1)) && nodupB (pn.map (·.2.2)) && (pn.all fun x => Nat.blt x.1 x.2.1 && Nat.blt x.2.1 ops.size) &&
  (List.range ops.size).all fun i => match kd ks i with
    | 0 => pn.all fun x => !(Nat.beq x.1 i) && !(Nat.beq x.2.1 i) && !((ops[i]?).bind (·.dst) == some x.2.2)
    | 3 => pn.all fun x => !(Nat.beq x.2.1 i)
    | 4 => pn.all fun x => !(Nat.beq x.1 i)
    | _ => false
def OnlyP (φ : Pr) : Prop := ∀ (c m m' : Mem) (v : Value), φ.p ⟨c, m⟩ v → φ.p ⟨c, m'⟩ v
theorem allC_upd {Γ : List (Nat × Pr)} {d : Option Tmp} {φ : Pr} (h : AllC Γ) (hφ : OnlyP φ) : AllC (upd Γ d φ) := by
  cases d with
  | none => exact h
  | some d => exact ⟨hφ, h⟩
theorem allC_gam {D : Nat → Bool} : ∀ (es : List (Option Tmp × Pr)) (k : Nat) (Γ : List (Nat × Pr)), AllC Γ → (∀ e ∈ es, OnlyP e.2) → AllC (gam D es k Γ)
  | [], _, _, h, _ => h
  | (d, φ) :: r, k, Γ, h, he => by
    simp only [gam]
    refine allC_gam r (k + 1) _ ?_ fun e hm => he e (by simp [hm])
    split
    · exact allC_upd h (he (d, φ) (by simp))
    · exact h
section
variable {P : Program} {Γ : List (Nat × Pr)} {n : Nat} {F0 : Nat → Bool} {js : List Item} {w0 w : World} {a : Act} {ops : Array Oper}
theorem st_alloc_ex {k d : Nat} {T : TypeId} {α : Type} [Enc α] {x0 : α} {t : TypeId} {ps : String} {af : Array Edge} (hz : ZeroIs P T x0) (h : St n F0 js Γ w0 a w) (hk : js[k]? = some Item.void) (hC : AllC Γ) :
    Ex P (execOp a.eval ⟨some d, .alloc T, t, ps, af, none⟩) w fun v w' => ∃ b, v = .pointer (some ⟨b, 0, none⟩) ∧ St n F0 (js.set k (Item.box T b x0)) Γ w0 a w' := by
  obtain ⟨i, z, hi, hzz, hrep⟩ := hz.out
  have hr1 : (execOp a.eval ⟨some d, .alloc T, t, ps, af, none⟩).run P w = .ok (.value (.pointer (some ⟨w.heap.size, 0, none⟩))) (w.alloc (.cells z.cells T)) := by
    simp [execOp, Instr.alloc, zeroValue, typeInfo, hi, hzz, newVar, newRow]
  unfold Ex
  rw [hr1]
  have hbw := below_alloc w (.cells z.cells T)
  have hblk : ∀ q, q < w.heap.size → Item.void.o q = false → (w.alloc (.cells z.cells T)).heap[q]? = w.heap[q]? := fun q hq _ => hbw.block q hq
  have ho : ∀ q, bx w.heap.size q = true → Item.void.o q = true ∨ w.heap.size ≤ q := fun q hq => by rw [bx_iff] at hq; subst hq; exact .inr (Nat.le_refl _)
  have hle := vw_turn (F0 := F0) (its_at hk) hblk ho
  refine ⟨w.heap.size, rfl, h.change hk (it' := Item.box T w.heap.size x0) (h.at_.turn hC hle fun q hq => ?_) (below_trans' h.below hbw) hbw.size ho ⟨⟨z.cells, heap_alloc_new w _, hrep _⟩, Nat.zero_le _⟩ hblk hle⟩
  rcases pf_iff.1 hq with hq | ⟨j, o, hj, hq⟩
  · exact Nat.lt_of_lt_of_le (h.at_.own q (pf_iff.2 (.inl hq))) hbw.size
  · rw [List.getElem?_set] at hj
    split at hj
    · split at hj
      · cases hj
        have hq : bx w.heap.size q = true := hq
        rw [bx_iff] at hq; subst hq; simp
      · cases hj
    · exact Nat.lt_of_lt_of_le (h.at_.own q (pf_iff.2 (.inr ⟨j, o, hj, hq⟩))) hbw.size
theorem st_store_ex {k p b : Nat} {T : TypeId} {y : Operand} {α : Type} [Enc α] {x z : α} {t : TypeId} {ps : String} {af : Array Edge} (hT : TyP P T α) (h : St n F0 js Γ w0 a w) (hk : js[k]? = some (Item.box T b x)) (hC : AllC Γ) (hpv : a.eval (.tmp p) = .pointer (some ⟨b, 0, none⟩)) (hyv : val (vw (pf F0 (Its js)) w) (a.eval y) z) :
    Ex P (execOp a.eval ⟨none, .store T (.tmp p) y, t, ps, af, none⟩) w fun _ w' => St n F0 (js.set k (Item.box T b z)) Γ w0 a w' := by
  have hO : OwnB T 0 (vw (pf F0 (Its js)) w) w b x := h.it hk
  obtain ⟨cur, h1, h2⟩ := hO.out
  obtain ⟨i, hi, hsz⟩ := hT.info
  have hcells := val_cells hyv
  have hlen := Enc.len hcells
  have hone := Enc.cell hcells
  have hcur := Enc.len h2
  have hst := run_storeCells_at P b 0 T (a.eval y).cells.toList 0 cur w h1 (by rw [hlen]; simp at hcur; omega) hone
  have hcs : (a.eval y).cells.size = i.size := by rw [hsz, ← hlen]; simp
  have hcat : cur.toList.take 0 ++ (a.eval y).cells.toList ++ cur.toList.drop (0 + (a.eval y).cells.toList.length) = (a.eval y).cells.toList := by
    rw [List.take_zero, List.nil_append, List.drop_eq_nil_of_le (by rw [hlen]; omega), List.append_nil]
  have hr : (execOp a.eval ⟨none, .store T (.tmp p) y, t, ps, af, none⟩).run P w = .ok .skip (w.setRow b (a.eval y).cells.toList.toArray) := by
    simp only [Nat.add_zero] at hst
    rw [hcat] at hst
    simp only [execOp, hpv, Instr.storeAt, Instr.sureAddr, storeVar, Go.sizeOf, typeInfo, Sem.run_bind, run_program, Result.andThen_ok, hi, Sem.run_pure]
    simp [hcs, hst]
  unfold Ex
  rw [hr]
  have hblk : ∀ q, q < w.heap.size → bx b q = false → (w.setRow b (a.eval y).cells.toList.toArray).heap[q]? = w.heap[q]? := fun q hq hb => setRow_other _ _ _ _ (fun e => by rw [bx_iff.2 e] at hb; cases hb)
  have hs := set_self (its_at hk)
  have hle := vw_turn (F0 := F0) (its_at hk) hblk (o' := bx b) (fun q hq => .inl hq)
  have hsize : (w.setRow b (a.eval y).cells.toList.toArray).heap.size = w.heap.size := by simp
  have hlow := h.low k _ b hk (bx_iff.2 rfl)
  have hB : Below w0.heap.size w0 (w.setRow b (a.eval y).cells.toList.toArray) := h.below.trans ⟨rfl, rfl, rfl, by rw [hsize]; exact Nat.le_refl _, fun q hq => setRow_other _ _ _ _ (fun e => by omega), Nat.le_refl _⟩
  refine h.change hk (it' := Item.box T b z) (h.at_.turn hC hle fun q hq => ?_) hB (by rw [hsize]; exact Nat.le_refl _) (fun q hq => .inl hq) ⟨⟨_, setRow_heap w b cur _ T _ h1, Enc.mono hle (by simpa using hcells)⟩, Nat.zero_le _⟩ hblk hle
  rw [hsize]
  have hq' : pf F0 ((Its js).set k (bx b)) q = true := hq
  have e : (Its js).set k (bx b) = Its js := hs
  rw [e] at hq'
  exact h.at_.own q hq'
theorem itemsP_at {ps : List PairS} {ss : List (Option Nat × Bool)} {k : Nat} {p : PairS} {s : Option Nat × Bool} (h : ps[k]? = some p) (hs : ss[k]? = some s) : (js ++ itemsP ps ss)[js.length + k]? = some (p.item s) := by
  rw [List.getElem?_append_right (by omega), Nat.add_sub_cancel_left]
  unfold itemsP
  rw [List.getElem?_zipWith, h, hs]
theorem itemsP_set {ps : List PairS} {ss : List (Option Nat × Bool)} {k : Nat} {p : PairS} {s : Option Nat × Bool} (h : ps[k]? = some p) : (js ++ itemsP ps ss).set (js.length + k) (p.item s) = js ++ itemsP ps (ss.set k s) := by
  rw [List.set_append_right _ _ (by omega), Nat.add_sub_cancel_left]
  congr 1
  unfold itemsP
  apply List.ext_getElem?
  intro j
  rw [List.getElem?_set, List.getElem?_zipWith, List.getElem?_zipWith, List.getElem?_set]
  by_cases e : k = j
  · subst e
    rw [if_pos rfl, if_pos rfl, h, List.length_zipWith]
    have hk := (List.getElem?_eq_some_iff.1 h).1
    by_cases q : k < ss.length
    · rw [if_pos (by omega), if_pos q]
    · rw [if_neg (by omega), if_neg q]
  · rw [if_neg e, if_neg e]
variable {ks : List Nat} {es : List (Option Tmp × Pr)} {ps : List PairS}
/-- What each operation of such a region is. -/
def PairOp (P : Program) (ops : Array Oper) (ks : List Nat) (ps : List PairS) (es : List (Option Tmp × Pr)) (Γ : List (Nat × Pr)) (i : Nat) (o : Oper) : Prop :=
  (kd ks i = 0 ∧ ∃ φ, es[i]? = some (o.dst, φ) ∧ OnlyP φ ∧ StepG P ops o ((es.take i).foldl (fun Γ e => upd Γ e.1 e.2) Γ) φ) ∨
  (kd ks i = 3 ∧ ∃ (k : Nat) (p : PairS) (t : TypeId) (s : String) (af : Array Edge), ps[k]? = some p ∧ p.ai = i ∧ o = ⟨some p.d, .alloc p.T, t, s, af, none⟩ ∧ @ZeroIs P p.T p.α p.enc p.x0 ∧ es[i]? = some (some p.d, Pr.top)) ∨
  (kd ks i = 4 ∧ ∃ (k : Nat) (p : PairS) (y : Operand) (t : TypeId) (s : String) (af : Array Edge), ps[k]? = some p ∧ p.si = i ∧ o = ⟨none, .store p.T (.tmp p.d) y, t, s, af, none⟩ ∧ @TyP P p.T p.α p.enc ∧
    Od ((es.take i).foldl (fun Γ e => upd Γ e.1 e.2) Γ) y (@isV p.α p.enc p.x) ∧ es[i]? = some (none, Pr.top))
structure InvP (n : Nat) (F0 : Nat → Bool) (js : List Item) (ps : List PairS) (ops : Array Oper) (es : List (Option Tmp × Pr)) (Γ : List (Nat × Pr)) (w0 : World) (listed : Array Bool) (ss : List (Option Nat × Bool)) (a : Act) (w : World) : Prop where
  size : listed.size = ops.size
  closed : ∀ j, listed.getD j false = true → ∀ i, ((masksFrom ops.toList []).getD j 0).testBit i = true → listed.getD i false = true
  st : St n F0 (js ++ itemsP ps ss) (gam (fun k => listed.getD k false) es 0 Γ) w0 a w
  len : ss.length = ps.length
  al : ∀ (k : Nat) (p : PairS) (s : Option Nat × Bool), ps[k]? = some p → ss[k]? = some s → listed.getD p.ai false = s.1.isSome ∧ listed.getD p.si false = s.2 ∧ ∀ b, s.1 = some b → tmp a p.d = .pointer (some ⟨b, 0, none⟩)
theorem InvP.inv {listed : Array Bool} {ss : List (Option Nat × Bool)} (h : InvP n F0 js ps ops es Γ w0 listed ss a w) : Inv n (pf F0 (Its (js ++ itemsP ps ss))) ops es Γ listed a w := ⟨h.size, h.closed, h.st.at_⟩
theorem tmp_put_ne {a : Act} {d : Option Tmp} {v : Value} {t : Nat} (h : d ≠ some t) : tmp (a.put d v) t = tmp a t := by
  cases d with
  | none => rfl
  | some d =>
    unfold tmp Act.put
    have : ¬ d = t := fun e => h (by rw [e])
    simp only [Array.getD_eq_getD_getElem?, Array.getElem?_setIfInBounds, this, if_false]
theorem wpAny_pairs {Q : Exit → Act → World → Prop} (hlen : es.length = ops.size) (hC : AllC Γ) (hpo : ∀ i o, ops[i]? = some o → PairOp P ops ks ps es Γ i o) (hok : pairsOK ks ops (ps.map PairS.nums) = true)
    (ht : tempsOK ops = true) (hd : dstsIn n ops.toList = true) (hwf : ∀ i o, ops[i]? = some o → ∀ e ∈ o.after.toList, Region.binds .any e = true → e.on < i)
    (hai : ∀ p ∈ ps, p.ai < ops.size ∧ p.si < ops.size)
    (K : ∀ (a : Act) (w : World) (bs : List Nat), bs.length = ps.length → St n F0 (js ++ List.zipWith (fun p b => @Item.box p.α p.enc p.T b p.x) ps bs) (es.foldl (fun Γ e => upd Γ e.1 e.2) Γ) w0 a w →
      (∀ (k : Nat) (p : PairS) (b : Nat), ps[k]? = some p → bs[k]? = some b → tmp a p.d = .pointer (some ⟨b, 0, none⟩)) → Q .normal a w) :
    ∀ (fuel : Nat) (listed : Array Bool) (ss : List (Option Nat × Bool)) (a : Act) (w : World), InvP n F0 js ps ops es Γ w0 listed ss a w → listed.toList.count false ≤ fuel → wpAny P .any ops Q fuel listed a w := by
  unfold pairsOK at hok
  simp only [Bool.and_eq_true] at hok
  obtain ⟨⟨⟨⟨hn1, hn2⟩, hn3⟩, hlt0⟩, hks⟩ := hok
  rw [List.all_eq_true] at hks hlt0
  have num : ∀ (k : Nat) (p : PairS), ps[k]? = some p → (ps.map PairS.nums)[k]? = some p.nums := fun k p h => by rw [List.getElem?_map, h]; rfl
  have one : ∀ (k k' : Nat) (p p' : PairS), ps[k]? = some p → ps[k']? = some p' → (p.ai = p'.ai ∨ p.si = p'.si ∨ p.d = p'.d) → k = k' := by
    intro k k' p p' h h' e
    rcases e with e | e | e
    · exact nodupB_at hn1 (x := p.ai) (by rw [List.getElem?_map, num k p h]; rfl) (by rw [List.getElem?_map, num k' p' h', e]; rfl)
    · exact nodupB_at hn2 (x := p.si) (by rw [List.getElem?_map, num k p h]; rfl) (by rw [List.getElem?_map, num k' p' h', e]; rfl)
    · exact nodupB_at hn3 (x := p.d) (by rw [List.getElem?_map, num k p h]; rfl) (by rw [List.getElem?_map, num k' p' h', e]; rfl)
  have hlts : ∀ (k : Nat) (p : PairS), ps[k]? = some p → p.ai < p.si := fun k p h => by
    have := hlt0 p.nums (List.mem_of_getElem? (num k p h))
    rw [Bool.and_eq_true] at this
    simpa [PairS.nums, Nat.blt_eq] using this.1
  have hes : ∀ (j : Nat) (e : Option Tmp × Pr), es[j]? = some e → ∃ y : Oper, ops[j]? = some y ∧ (e.1 = y.dst ∨ e.1 = none) := by
    intro j e hj
    have hj' : j < ops.size := by rw [← hlen]; exact (List.getElem?_eq_some_iff.1 hj).1
    refine ⟨ops[j], Array.getElem?_eq_getElem hj', ?_⟩
    rcases hpo j _ (Array.getElem?_eq_getElem hj') with ⟨_, φ, h, _⟩ | ⟨_, k, p, t, s, af, _, _, ho, _, h⟩ | ⟨_, k, p, y, t, s, af, _, _, ho, _, _, h⟩
    · rw [h] at hj; cases hj; exact .inl rfl
    · rw [h] at hj; cases hj; rw [ho]; exact .inl rfl
    · rw [h] at hj; cases hj; exact .inr rfl
  have honly : ∀ e ∈ es, OnlyP e.2 := by
    intro e he
    obtain ⟨j, hj⟩ := List.mem_iff_getElem?.1 he
    have hj' : j < ops.size := by rw [← hlen]; exact (List.getElem?_eq_some_iff.1 hj).1
    rcases hpo j _ (Array.getElem?_eq_getElem hj') with ⟨_, φ, h, ho, _⟩ | ⟨_, k, p, t, s, af, _, _, _, _, h⟩ | ⟨_, k, p, y, t, s, af, _, _, _, _, _, h⟩
    · rw [h] at hj; cases hj; exact ho
    · rw [h] at hj; cases hj; exact fun _ _ _ _ _ => trivial
    · rw [h] at hj; cases hj; exact fun _ _ _ _ _ => trivial
  have hCg : ∀ D : Nat → Bool, AllC (gam D es 0 Γ) := fun D => allC_gam es 0 Γ hC honly
  -- when all is done
  have hfin : ∀ (listed : Array Bool) (ss : List (Option Nat × Bool)) (a : Act) (w : World), InvP n F0 js ps ops es Γ w0 listed ss a w → (∀ i, i < ops.size → listed.getD i false = true) → Q .normal a w := by
    intro listed ss a w hinv hall
    have hss : ∀ (k : Nat) (s : Option Nat × Bool), ss[k]? = some s → ∃ b, s = (some b, true) := by
      intro k s hs
      have hk : k < ps.length := by rw [← hinv.len]; exact (List.getElem?_eq_some_iff.1 hs).1
      have hp := List.getElem?_eq_getElem hk
      obtain ⟨h1, h2, _⟩ := hinv.al k _ s hp hs
      obtain ⟨q1, q2⟩ := hai ps[k] (by simp)
      rw [hall _ q1] at h1
      rw [hall _ q2] at h2
      obtain ⟨s1, s2⟩ := s
      cases s1 with
      | none => cases h1
      | some b => exact ⟨b, by simp at h2; rw [← h2]⟩
    refine K a w (ss.filterMap (·.1)) ?_ ?_ fun k p b hp hb => ?_
    · rw [← hinv.len]
      have key : ∀ l : List (Option Nat × Bool), (∀ s ∈ l, ∃ b, s = (some b, true)) → (l.filterMap (·.1)).length = l.length := by
        intro l
        induction l with
        | nil => intro _; rfl
        | cons s l ih => intro h; obtain ⟨b, rfl⟩ := h s (by simp); simp [ih fun s hs => h s (by simp [hs])]
      exact key ss fun s hs => by obtain ⟨k, hk⟩ := List.mem_iff_getElem?.1 hs; exact hss k s hk
    · have e : itemsP ps ss = List.zipWith (fun p b => @Item.box p.α p.enc p.T b p.x) ps (ss.filterMap (·.1)) := by
        have key : ∀ (ps : List PairS) (l : List (Option Nat × Bool)), (∀ s ∈ l, ∃ b, s = (some b, true)) → itemsP ps l = List.zipWith (fun p b => @Item.box p.α p.enc p.T b p.x) ps (l.filterMap (·.1)) := by
          intro ps l
          induction l generalizing ps with
          | nil => intro _; simp [itemsP]
          | cons s l ih =>
            intro h
            obtain ⟨b, rfl⟩ := h s (by simp)
            cases ps with
            | nil => simp [itemsP]
            | cons p ps =>
              have := ih ps fun s hs => h s (by simp [hs])
              unfold itemsP at *
              simp only [List.zipWith_cons_cons, List.filterMap_cons, this]
              rfl
        exact key ps ss fun s hs => by obtain ⟨k, hk⟩ := List.mem_iff_getElem?.1 hs; exact hss k s hk
      rw [← e]
      have := hinv.st
      rwa [gam_all es 0 Γ (fun j hj => by simpa using hall j (by omega))] at this
    · have key : ∀ (l : List (Option Nat × Bool)), (∀ s ∈ l, ∃ b, s = (some b, true)) → ∀ (k b : Nat), (l.filterMap (·.1))[k]? = some b → l[k]? = some (some b, true) := by
        intro l
        induction l with
        | nil => intro _ k b h; simp at h
        | cons s l ih =>
          intro h k b hk
          obtain ⟨b', rfl⟩ := h s (by simp)
          cases k with
          | zero => simp at hk; subst hk; rfl
          | succ k => simp at hk; simpa using ih (fun s hs => h s (by simp [hs])) k b hk
      have hs := key ss (fun s hs => by obtain ⟨k, hk⟩ := List.mem_iff_getElem?.1 hs; exact hss k s hk) k b hb
      exact (hinv.al k p _ hp hs).2.2 b rfl
  have hnone : ∀ (listed : Array Bool) (ss : List (Option Nat × Bool)) (a : Act) (w : World), InvP n F0 js ps ops es Γ w0 listed ss a w → Region.ready .any ops listed = [] → Q .normal a w := by
    intro listed ss a w hinv hr
    refine hfin listed ss a w hinv fun i => ?_
    induction i using Nat.strongRecOn with
    | _ i ih =>
      intro hi
      cases hb : listed.getD i false with
      | true => rfl
      | false =>
        exfalso
        have : i ∈ Region.ready .any ops listed := by
          rw [mem_ready]
          refine ⟨by rw [getD_tf (by rw [hinv.size]; exact hi)]; exact hb, _, Array.getElem?_eq_getElem hi, fun e he hbd => ?_⟩
          have hlt := hwf i _ (Array.getElem?_eq_getElem hi) e (by simpa using he) hbd
          exact ih e.on hlt (by omega)
        rw [hr] at this; cases this
  -- what sets stands behind what lays
  have horder : ∀ (k : Nat) (p : PairS), ps[k]? = some p → ((masksFrom ops.toList []).getD p.si 0).testBit p.ai = true := by
    intro k p hp
    obtain ⟨q1, q2⟩ := hai p (List.mem_of_getElem? hp)
    have hA : ∃ t s af, ops[p.ai]? = some ⟨some p.d, .alloc p.T, t, s, af, none⟩ := by
      rcases hpo p.ai _ (Array.getElem?_eq_getElem q1) with ⟨c0, _⟩ | ⟨_, k', p', t, s, af, hp', hpi', ho', _⟩ | ⟨c4, _⟩
      · have := hks p.ai (List.mem_range.2 q1)
        rw [c0] at this
        simp only [List.all_eq_true] at this
        have := this p.nums (List.mem_of_getElem? (num k p hp))
        simp [PairS.nums] at this
      · have hkk := one k' k p' p hp' hp (.inl hpi')
        subst hkk
        rw [hp] at hp'; cases hp'
        exact ⟨t, s, af, by rw [← ho']; exact Array.getElem?_eq_getElem q1⟩
      · have := hks p.ai (List.mem_range.2 q1)
        rw [c4] at this
        simp only [List.all_eq_true] at this
        have := this p.nums (List.mem_of_getElem? (num k p hp))
        simp [PairS.nums] at this
    have hS : ∃ y t s af, ops[p.si]? = some ⟨none, .store p.T (.tmp p.d) y, t, s, af, none⟩ := by
      rcases hpo p.si _ (Array.getElem?_eq_getElem q2) with ⟨c0, _⟩ | ⟨c3, _⟩ | ⟨_, k', p', y, t, s, af, hp', hpi', ho', _⟩
      · have := hks p.si (List.mem_range.2 q2)
        rw [c0] at this
        simp only [List.all_eq_true] at this
        have := this p.nums (List.mem_of_getElem? (num k p hp))
        simp [PairS.nums] at this
      · have := hks p.si (List.mem_range.2 q2)
        rw [c3] at this
        simp only [List.all_eq_true] at this
        have := this p.nums (List.mem_of_getElem? (num k p hp))
        simp [PairS.nums] at this
      · have hkk := one k' k p' p hp' hp (.inr (.inl hpi'))
        subst hkk
        rw [hp] at hp'; cases hp'
        exact ⟨y, t, s, af, by rw [← ho']; exact Array.getElem?_eq_getElem q2⟩
    obtain ⟨t, s, af, hA⟩ := hA
    obtain ⟨y, t', s', af', hS⟩ := hS
    refine tempsOK_at ht hS hA (hlts k p hp) ?_
    unfold clash
    simp only [Bool.or_eq_true]
    right
    simp only [List.contains_iff_mem]
    exact mem_looksT (by simp [looks, Op.operands])
  intro fuel
  induction fuel with
  | zero =>
    intro listed ss a w hinv hc
    have hall : ∀ i, i < ops.size → listed.getD i false = true := by
      intro i hi
      cases hu : listed.getD i false with
      | true => rfl
      | false =>
        have hs := hinv.size
        have hun' : false ∈ listed.toList := by
          rw [Array.getD_eq_getD_getElem?, Array.getElem?_eq_getElem (by omega)] at hu
          simp only [Option.getD_some] at hu
          rw [← hu]; exact Array.mem_toList_iff.2 (Array.getElem_mem (by omega))
        have := List.count_pos_iff.2 hun'
        omega
    have hr : Region.ready .any ops listed = [] := by
      rw [List.eq_nil_iff_forall_not_mem]
      intro i hi
      obtain ⟨h0, o, ho, _⟩ := ready_spec hi
      have hilt : i < ops.size := (Array.getElem?_eq_some_iff.1 ho).1
      rw [getD_tf (by rw [hinv.size]; exact hilt), hall i hilt] at h0
      cases h0
    exact ⟨hr, hfin listed ss a w hinv hall⟩
  | succ fuel ih =>
    intro listed ss a w hinv hc
    refine ⟨fun hr => hnone listed ss a w hinv hr, fun i hi => ?_⟩
    obtain ⟨hun, o, ho, hpre⟩ := ready_spec hi
    have hs := hinv.size
    have hilt : i < ops.size := (Array.getElem?_eq_some_iff.1 ho).1
    rw [getD_tf (by omega)] at hun
    have hmet := inv_met hlen hes ht hinv.inv ho hun hpre
    have hcount := count_less (by omega) hun hc
    have hki := hks i (List.mem_range.2 hilt)
    unfold wpOp
    rw [ho]
    simp only []
    rcases hpo i o ho with ⟨hk0, φ, he, _, hsg⟩ | ⟨hk3, k, p, t, s, af, hp, hpi, hoo, hz, he⟩ | ⟨hk4, k, p, y, t, s, af, hp, hpi, hoo, hT, hy, he⟩
    · -- it changes nothing that was there
      rw [hk0] at hki
      simp only [List.all_eq_true] at hki
      have hno : ∀ (k : Nat) (p : PairS), ps[k]? = some p → p.ai ≠ i ∧ p.si ≠ i ∧ o.dst ≠ some p.d := by
        intro k p hp
        have := hki p.nums (List.mem_of_getElem? (num k p hp))
        rw [ho] at this
        simp only [PairS.nums, Bool.and_eq_true, Bool.not_eq_true'] at this
        obtain ⟨⟨h1, h2⟩, h3⟩ := this
        exact ⟨fun e => by rw [e] at h1; simp at h1, fun e => by rw [e] at h2; simp at h2, fun e => by simp [e] at h3⟩
      have hx := hsg.2 (pf F0 (Its (js ++ itemsP ps ss))) w a hinv.st.at_.own hmet
      have hstep : ∀ v w', Below w.heap.size w w' → φ.p (v2 (pf F0 (Its (js ++ itemsP ps ss))) w') v → InvP n F0 js ps ops es Γ w0 (listed.setIfInBounds i true) ss (a.put o.dst v) w' := by
        intro v w' hb hv
        have hi' := inv_next hlen hes ht hd hinv.inv ho he hun hpre hb hv
        refine ⟨hi'.size, hi'.closed, hinv.st.grow hb hi'.at_, hinv.len, fun k p s hp hs' => ?_⟩
        obtain ⟨n1, n2, n3⟩ := hno k p hp
        obtain ⟨h1, h2, h3⟩ := hinv.al k p s hp hs'
        rw [getD_set (by omega), getD_set (by omega), if_neg (fun e => n1 e.symm), if_neg (fun e => n2 e.symm), tmp_put_ne n3]
        exact ⟨h1, h2, h3⟩
      split
      · rename_i hw
        rw [if_pos hw] at hx
        exact .inl (wp_of_ex (hx.mono fun v w' hk => ih _ ss _ _ (hstep v w' hk.1 hk.2) hcount))
      · rename_i hw
        rw [if_neg hw] at hx
        exact ih _ ss _ _ (hstep undef w (Below.refl _ _) hx) hcount
    · -- a variable is laid
      subst hoo
      have hk : k < ps.length := (List.getElem?_eq_some_iff.1 hp).1
      obtain ⟨sk, hsk⟩ : ∃ s, ss[k]? = some s := ⟨_, List.getElem?_eq_getElem (by rw [hinv.len]; exact hk)⟩
      obtain ⟨h1, h2, h3⟩ := hinv.al k p sk hp hsk
      have hnone : sk.1 = none := by
        rw [hpi, hun] at h1
        cases h : sk.1 with
        | none => rfl
        | some b => rw [h] at h1; cases h1
      have hit : (js ++ itemsP ps ss)[js.length + k]? = some Item.void := by
        rw [itemsP_at hp hsk]
        obtain ⟨s1, s2⟩ := sk
        have : s1 = none := hnone
        subst this; rfl
      have hs2 : sk.2 = false := by
        cases h : sk.2 with
        | false => rfl
        | true =>
          exfalso
          rw [h] at h2
          have hlt := hlts k p hp
          have := horder k p hp
          have := hinv.closed p.si h2 p.ai this
          rw [hpi, hun] at this; cases this
      rw [hk3] at hki
      simp only [List.all_eq_true] at hki
      have hno : ∀ (k' : Nat) (p' : PairS), ps[k']? = some p' → p'.si ≠ i := by
        intro k' p' hp' e
        have := hki p'.nums (List.mem_of_getElem? (num k' p' hp'))
        simp only [PairS.nums, Bool.not_eq_true'] at this
        rw [e] at this; simp at this
      rw [if_pos (by rfl)]
      have hdn : p.d < n := by
        unfold dstsIn at hd
        rw [List.all_eq_true] at hd
        have := hd _ (by simpa using Array.mem_of_getElem? ho)
        simpa [Nat.blt_eq] using this
      refine .inl (wp_of_ex ((@st_alloc_ex P _ n F0 _ w0 w a _ p.d p.T p.α p.enc p.x0 t s af hz hinv.st hit (hCg _)).mono fun v w' ⟨b, hv, hst⟩ => ?_))
      have hset : (js ++ itemsP ps ss).set (js.length + k) (@Item.box p.α p.enc p.T b p.x0) = js ++ itemsP ps (ss.set k (some b, false)) := itemsP_set (s := (some b, false)) hp
      rw [hset] at hst
      have hinv' := inv_next hlen hes ht hd (⟨hinv.size, hinv.closed, hst.at_⟩ : Inv n _ ops es Γ listed a w') ho he hun hpre (Below.refl _ _) (v := v) trivial
      refine ih _ (ss.set k (some b, false)) _ _ ⟨hinv'.size, hinv'.closed, hst.grow (Below.refl _ _) hinv'.at_, by rw [List.length_set]; exact hinv.len, fun k' p' s' hp' hs' => ?_⟩ hcount
      rw [getD_set (by omega), getD_set (by omega), if_neg (show ¬ i = p'.si from fun e => hno k' p' hp' e.symm)]
      by_cases e : k = k'
      · subst e
        rw [hp] at hp'; cases hp'
        rw [List.getElem?_set, if_pos rfl, if_pos (by rw [hinv.len]; exact hk)] at hs'
        cases hs'
        refine ⟨by rw [if_pos hpi.symm]; rfl, by rw [h2, hs2], fun b' hb' => ?_⟩
        cases hb'
        show tmp (a.put (some p.d) v) p.d = _
        rw [tmp_put (by rw [hst.at_.size]; exact hdn), if_pos rfl, hv]
      · rw [List.getElem?_set, if_neg e] at hs'
        obtain ⟨g1, g2, g3⟩ := hinv.al k' p' s' hp' hs'
        rw [if_neg (show ¬ i = p'.ai from fun e' => e (one k k' p p' hp hp' (.inl (hpi.trans e'))))]
        refine ⟨g1, g2, fun b' hb' => ?_⟩
        show tmp (a.put (some p.d) v) p'.d = _
        rw [tmp_put_ne (fun e' => e (one k k' p p' hp hp' (.inr (.inr (Option.some.inj e')))))]
        exact g3 b' hb'
    · -- it is set
      subst hoo
      have hk : k < ps.length := (List.getElem?_eq_some_iff.1 hp).1
      obtain ⟨sk, hsk⟩ : ∃ s, ss[k]? = some s := ⟨_, List.getElem?_eq_getElem (by rw [hinv.len]; exact hk)⟩
      obtain ⟨h1, h2, h3⟩ := hinv.al k p sk hp hsk
      have hlai : listed.getD p.ai false = true := by
        have hbit := horder k p hp
        rw [hpi] at hbit
        obtain ⟨e, hea, heb, hec⟩ := masks_edge (l := ops.toList) (by simpa using ho) hbit
        have hl := hpre e hea heb
        rcases hec with hec | hec
        · rw [← hec]; exact hl
        · exact hinv.closed _ hl _ hec
      obtain ⟨b, hb⟩ : ∃ b, sk.1 = some b := by
        rw [hlai] at h1
        cases h : sk.1 with
        | none => rw [h] at h1; cases h1
        | some b => exact ⟨b, rfl⟩
      have hs2 : sk.2 = false := by rw [← h2, hpi]; exact hun
      have hit : (js ++ itemsP ps ss)[js.length + k]? = some (@Item.box p.α p.enc p.T b p.x0) := by
        rw [itemsP_at hp hsk]
        obtain ⟨s1, s2⟩ := sk
        have e1 : s1 = some b := hb
        have e2 : s2 = false := hs2
        subst e1; subst e2; rfl
      rw [hk4] at hki
      simp only [List.all_eq_true] at hki
      have hno : ∀ (k' : Nat) (p' : PairS), ps[k']? = some p' → p'.ai ≠ i := by
        intro k' p' hp' e
        have := hki p'.nums (List.mem_of_getElem? (num k' p' hp'))
        simp only [PairS.nums, Bool.not_eq_true'] at this
        rw [e] at this; simp at this
      rw [if_pos (by rfl)]
      have hyv := hy.get (xs := looks ops ⟨none, .store p.T (.tmp p.d) y, t, s, af, none⟩) hmet (by simp [looks, Op.operands])
      refine .inl (wp_of_ex ((@st_store_ex P _ n F0 _ w0 w a _ p.d b p.T y p.α p.enc p.x0 p.x t s af hT hinv.st hit (hCg _) (h3 b hb) hyv).mono fun v w' hst => ?_))
      have hset : (js ++ itemsP ps ss).set (js.length + k) (@Item.box p.α p.enc p.T b p.x) = js ++ itemsP ps (ss.set k (some b, true)) := itemsP_set (s := (some b, true)) hp
      rw [hset] at hst
      have hinv' := inv_next hlen hes ht hd (⟨hinv.size, hinv.closed, hst.at_⟩ : Inv n _ ops es Γ listed a w') ho he hun hpre (Below.refl _ _) (v := v) trivial
      refine ih _ (ss.set k (some b, true)) _ _ ⟨hinv'.size, hinv'.closed, hst.grow (Below.refl _ _) hinv'.at_, by rw [List.length_set]; exact hinv.len, fun k' p' s' hp' hs' => ?_⟩ hcount
      rw [getD_set (by omega), getD_set (by omega), if_neg (show ¬ i = p'.ai from fun e => hno k' p' hp' e.symm)]
      by_cases e : k = k'
      · subst e
        rw [hp] at hp'; cases hp'
        rw [List.getElem?_set, if_pos rfl, if_pos (by rw [hinv.len]; exact hk)] at hs'
        cases hs'
        exact ⟨hlai, by rw [if_pos hpi.symm], fun b' hb' => by cases hb'; exact h3 b hb⟩
      · rw [List.getElem?_set, if_neg e] at hs'
        obtain ⟨g1, g2, g3⟩ := hinv.al k' p' s' hp' hs'
        rw [if_neg (show ¬ i = p'.si from fun e' => e (one k k' p p' hp hp' (.inr (.inl (hpi.trans e')))))]
        exact ⟨g1, g2, g3⟩
/-! ### by the text -/
def SeqP (P : Program) (ops : Array Oper) (ps : List PairS) : List (Oper × Nat) → Nat → List (Nat × Pr) → (List (Nat × Pr) → Prop) → Prop
  | [], _, Γ, K => K Γ
  | (o, 0) :: r, i, Γ, K => ∃ φ, OnlyP φ ∧ StepG P ops o Γ φ ∧ SeqP P ops ps r (i + 1) (upd Γ o.dst φ) K
  | (o, 3) :: r, i, Γ, K => (∃ (k : Nat) (p : PairS) (t : TypeId) (s : String) (af : Array Edge), ps[k]? = some p ∧ p.ai = i ∧ o = ⟨some p.d, .alloc p.T, t, s, af, none⟩ ∧ @ZeroIs P p.T p.α p.enc p.x0) ∧ SeqP P ops ps r (i + 1) (upd Γ o.dst Pr.top) K
  | (o, 4) :: r, i, Γ, K => (∃ (k : Nat) (p : PairS) (y : Operand) (t : TypeId) (s : String) (af : Array Edge), ps[k]? = some p ∧ p.si = i ∧ o = ⟨none, .store p.T (.tmp p.d) y, t, s, af, none⟩ ∧ @TyP P p.T p.α p.enc ∧ Od Γ y (@isV p.α p.enc p.x)) ∧ SeqP P ops ps r (i + 1) Γ K
  | _, _, _, _ => False
theorem sq0 {i d : Nat} {op : Op} {t : TypeId} {s : String} {af : Array Edge} {g : Option (Nat × Bool)} {r : List (Oper × Nat)} {K : List (Nat × Pr) → Prop} {φ : Pr} (hφ : OnlyP φ)
    (h : StepG P ops ⟨some d, op, t, s, af, g⟩ Γ φ) (k : SeqP P ops ps r (i + 1) ((d, φ) :: Γ) K) : SeqP P ops ps ((⟨some d, op, t, s, af, g⟩, 0) :: r) i Γ K := ⟨φ, hφ, h, k⟩
theorem sqA {i d T : Nat} {t : TypeId} {s : String} {af : Array Edge} {r : List (Oper × Nat)} {K : List (Nat × Pr) → Prop} (k : Nat) {si : Nat} {α : Type} {enc : Enc α} {x0 x : α} (hk : ps[k]? = some ⟨i, si, d, T, α, enc, x0, x⟩) (hz : @ZeroIs P T α enc x0)
    (h : SeqP P ops ps r (i + 1) ((d, Pr.top) :: Γ) K) : SeqP P ops ps ((⟨some d, .alloc T, t, s, af, none⟩, 3) :: r) i Γ K := ⟨⟨k, _, t, s, af, hk, rfl, rfl, hz⟩, h⟩
theorem sqS {i d T : Nat} {y : Operand} {t : TypeId} {s : String} {af : Array Edge} {r : List (Oper × Nat)} {K : List (Nat × Pr) → Prop} (k : Nat) {ai : Nat} {α : Type} {enc : Enc α} {x0 x : α} (hk : ps[k]? = some ⟨ai, i, d, T, α, enc, x0, x⟩) (hT : @TyP P T α enc) (hy : Od Γ y (@isV α enc x))
    (h : SeqP P ops ps r (i + 1) Γ K) : SeqP P ops ps ((⟨none, .store T (.tmp d) y, t, s, af, none⟩, 4) :: r) i Γ K := ⟨⟨k, _, y, t, s, af, hk, rfl, rfl, hT, hy⟩, h⟩
theorem sqN {i : Nat} {K : List (Nat × Pr) → Prop} (h : K Γ) : SeqP P ops ps [] i Γ K := h
theorem seqP_open {K : List (Nat × Pr) → Prop} : ∀ {l : List (Oper × Nat)} {i : Nat} {Γ : List (Nat × Pr)}, SeqP P ops ps l i Γ K →
    ∃ es : List (Option Tmp × Pr), es.length = l.length ∧ K (es.foldl (fun Γ e => upd Γ e.1 e.2) Γ) ∧ ∀ (j : Nat) (o : Oper) (q : Nat), l[j]? = some (o, q) →
      (q = 0 ∧ ∃ φ, es[j]? = some (o.dst, φ) ∧ OnlyP φ ∧ StepG P ops o ((es.take j).foldl (fun Γ e => upd Γ e.1 e.2) Γ) φ) ∨
      (q = 3 ∧ ∃ (k : Nat) (p : PairS) (t : TypeId) (s : String) (af : Array Edge), ps[k]? = some p ∧ p.ai = i + j ∧ o = ⟨some p.d, .alloc p.T, t, s, af, none⟩ ∧ @ZeroIs P p.T p.α p.enc p.x0 ∧ es[j]? = some (some p.d, Pr.top)) ∨
      (q = 4 ∧ ∃ (k : Nat) (p : PairS) (y : Operand) (t : TypeId) (s : String) (af : Array Edge), ps[k]? = some p ∧ p.si = i + j ∧ o = ⟨none, .store p.T (.tmp p.d) y, t, s, af, none⟩ ∧ @TyP P p.T p.α p.enc ∧
        Od ((es.take j).foldl (fun Γ e => upd Γ e.1 e.2) Γ) y (@isV p.α p.enc p.x) ∧ es[j]? = some (none, Pr.top))
  | [], i, Γ, h => ⟨[], rfl, h, fun j o q e => by simp at e⟩
  | (o, 0) :: r, i, Γ, ⟨φ, hφ, hst, hr⟩ => by
    obtain ⟨es, h1, h2, h3⟩ := seqP_open hr
    refine ⟨(o.dst, φ) :: es, by simp [h1], h2, fun j o' q e => ?_⟩
    cases j with
    | zero => simp at e; obtain ⟨rfl, rfl⟩ := e; exact .inl ⟨rfl, φ, rfl, hφ, hst⟩
    | succ j =>
      have := h3 j o' q (by simpa using e)
      rw [show i + 1 + j = i + (j + 1) by omega] at this
      simpa using this
  | (o, 3) :: r, i, Γ, ⟨⟨k, p, t, s, af, g1, g2, g3, g4⟩, hr⟩ => by
    obtain ⟨es, h1, h2, h3⟩ := seqP_open hr
    refine ⟨(o.dst, Pr.top) :: es, by simp [h1], h2, fun j o' q e => ?_⟩
    cases j with
    | zero => simp at e; obtain ⟨rfl, rfl⟩ := e; exact .inr (.inl ⟨rfl, k, p, t, s, af, g1, g2, g3, g4, by rw [g3]; rfl⟩)
    | succ j =>
      have := h3 j o' q (by simpa using e)
      rw [show i + 1 + j = i + (j + 1) by omega] at this
      simpa using this
  | (o, 4) :: r, i, Γ, ⟨⟨k, p, y, t, s, af, g1, g2, g3, g4, g5⟩, hr⟩ => by
    obtain ⟨es, h1, h2, h3⟩ := seqP_open hr
    refine ⟨(none, Pr.top) :: es, by simp [h1], h2, fun j o' q e => ?_⟩
    cases j with
    | zero => simp at e; obtain ⟨rfl, rfl⟩ := e; exact .inr (.inr ⟨rfl, k, p, y, t, s, af, g1, g2, g3, g4, g5, rfl⟩)
    | succ j =>
      have := h3 j o' q (by simpa using e)
      rw [show i + 1 + j = i + (j + 1) by omega] at this
      simpa [upd] using this
  | (o, 1) :: r, i, Γ, h => h.elim
  | (o, 2) :: r, i, Γ, h => h.elim
  | (o, q + 5) :: r, i, Γ, h => h.elim
def factsP (ps : List PairS) (bs : List Nat) : List (Nat × Pr) := List.zipWith (fun p b => (p.d, Pr.ptr b)) ps bs
theorem st_facts {bs : List Nat} {ps : List PairS} (h : St n F0 js Γ w0 a w) (hp : ∀ (k : Nat) (p : PairS) (b : Nat), ps[k]? = some p → bs[k]? = some b → tmp a p.d = .pointer (some ⟨b, 0, none⟩)) : St n F0 js (factsP ps bs ++ Γ) w0 a w := by
  induction ps generalizing bs with
  | nil => simpa [factsP] using h
  | cons p ps ih =>
    cases bs with
    | nil => simpa [factsP] using h
    | cons b bs =>
      have h1 := ih (bs := bs) fun k p' b' h1 h2 => hp (k + 1) p' b' (by simpa using h1) (by simpa using h2)
      exact St.put_fact (t := p.d) (φ := Pr.ptr b) h1 (hp 0 p b rfl rfl)
/-- **A region that lays variables and sets them once, whatever order is drawn.** -/
theorem st_pairs {Q : Exit → Act → World → Prop} (hm : P.follows .mixedOrders = true) {id : Nat} (ks : List Nat) (ps : List PairS) (hok : regionOK n ops = true) (hpk : (pairsOK ks ops (ps.map PairS.nums) && Nat.beq ks.length ops.size) = true) (h : St n F0 js Γ w0 a w) (hC : AllC Γ)
    (hs : SeqP P ops ps (ops.toList.zip ks) 0 Γ fun Γ' => ∀ (a' : Act) (w' : World) (bs : List Nat), bs.length = ps.length → St n F0 (js ++ List.zipWith (fun p b => @Item.box p.α p.enc p.T b p.x) ps bs) (factsP ps bs ++ Γ') w0 a' w' → Q .normal a' w') :
    (Code.region id ops true).wp P Q a w := by
  unfold regionOK at hok
  rw [Bool.and_eq_true, Bool.and_eq_true] at hok
  obtain ⟨⟨ht, he⟩, hd⟩ := hok
  rw [Bool.and_eq_true] at hpk
  obtain ⟨hpk, hkl⟩ := hpk
  have hkl := Nat.eq_of_beq_eq_true hkl
  have hwf : ∀ i o, ops[i]? = some o → ∀ e ∈ o.after.toList, Region.binds .any e = true → e.on < i := by
    intro i o ho e hea heb
    unfold edgesOK at he
    rw [List.all_eq_true] at he
    have := he i (List.mem_range.2 (Array.getElem?_eq_some_iff.1 ho).1)
    rw [ho] at this
    simp only [Option.map_some, Option.getD_some, Array.all_eq_true'] at this
    have := this e (by simpa using hea)
    rw [heb] at this
    simpa [Nat.blt_eq] using this
  obtain ⟨es, h1, h2, h3⟩ := seqP_open hs
  have hzl : (ops.toList.zip ks).length = ops.size := by rw [List.length_zip, hkl]; simp
  have hzip : ∀ i o, ops[i]? = some o → (ops.toList.zip ks)[i]? = some (o, kd ks i) := by
    intro i o ho
    have hi : i < ops.size := (Array.getElem?_eq_some_iff.1 ho).1
    have hki : i < ks.length := by rw [hkl]; exact hi
    rw [List.getElem?_zip_eq_some]
    refine ⟨by simpa using ho, ?_⟩
    unfold kd
    rw [List.getD_eq_getElem?_getD, List.getElem?_eq_getElem hki]; rfl
  have h0 : Below w.heap.size w { w with drawn := w.drawn + 1 } := (Below.refl _ _).drew
  have hpo : ∀ i o, ops[i]? = some o → PairOp P ops ks ps es Γ i o := fun i o ho => by
    have := h3 i o _ (hzip i o ho)
    rw [Nat.zero_add] at this
    exact this
  have hlt : ∀ p ∈ ps, p.ai < ops.size ∧ p.si < ops.size := by
    intro p hp
    unfold pairsOK at hpk
    simp only [Bool.and_eq_true, List.all_eq_true] at hpk
    have := hpk.1.2 p.nums (List.mem_map.2 ⟨p, hp, rfl⟩)
    simp only [PairS.nums, Bool.and_eq_true, Nat.blt_eq] at this
    omega
  refine wp_region_any hm ?_
  refine wpAny_pairs (ks := ks) (es := es) (ps := ps) (h1.trans hzl) hC hpo hpk ht hd hwf hlt (fun a' w' bs hb hst hf => h2 a' w' bs hb (st_facts hst hf)) ops.size _ (List.replicate ps.length (none, false)) a _ ⟨by simp, fun j hj => ?_, ?_, by simp, fun k p s hp hs => ?_⟩ ?_
  · simp [Array.getD_eq_getD_getElem?, Array.getElem?_replicate] at hj
    split at hj <;> simp at hj
  · rw [gam_none es 0 Γ (fun j _ => by simp [Array.getD_eq_getD_getElem?, Array.getElem?_replicate]; split <;> rfl)]
    -- void things ahead of all
    have hv : ∀ (m : Nat) (ps : List PairS) (js : List Item) (w : World), ps.length = m → St n F0 js Γ w0 a w → St n F0 (js ++ itemsP ps (List.replicate ps.length (none, false))) Γ w0 a w := by
      intro m
      induction m with
      | zero =>
        intro ps js w hl h
        have : ps = [] := List.eq_nil_of_length_eq_zero hl
        subst this; simpa [itemsP] using h
      | succ m ih =>
        intro ps js w hl h
        cases ps with
        | nil => cases hl
        | cons p ps =>
          have hpush : St n F0 (js ++ [Item.void]) Γ w0 a w := h.push (it := Item.void) (Below.refl _ _) (by
            have e : pf F0 (Its js ++ [Item.void.o]) = pf F0 (Its js) := by funext b; simp [pf, Item.void]
            rw [e]; exact h.at_) (fun b hb => by cases hb) trivial (by
            have e : pf F0 (Its js ++ [Item.void.o]) = pf F0 (Its js) := by funext b; simp [pf, Item.void]
            rw [e]; exact Mem.le_refl _)
          have := ih ps (js ++ [Item.void]) w (by simpa using hl) hpush
          simpa [itemsP, List.replicate_succ, PairS.item] using this
    have := hv _ ps js w rfl h
    exact this.grow h0 ⟨this.at_.size, this.at_.defers, this.at_.own, this.at_.sat⟩
  · have hs' : s = (none, false) := by
      have := List.mem_of_getElem? hs
      exact List.eq_of_mem_replicate this
    subst hs'
    refine ⟨?_, ?_, fun b hb => by cases hb⟩ <;> (simp [Array.getD_eq_getD_getElem?, Array.getElem?_replicate]; split <;> rfl)
  · exact Nat.le_trans (List.count_le_length) (by simp)
theorem len1 {l : List Nat} (h : l.length = 1) : ∃ a, l = [a] := by match l, h with | [a], _ => exact ⟨a, rfl⟩
theorem len2 {l : List Nat} (h : l.length = 2) : ∃ a b, l = [a, b] := by match l, h with | [a, b], _ => exact ⟨a, b, rfl⟩
end
end Go.Proofs.YtnnhmgcigoiceaaGreatDoor.Wh

namespace Go.Proofs.YtnnhmgcigoiceaaGreatDoor.Wh
open Go Go.RowKit

/-- What a variable holds when a part of it is set. -/
structure SetF {α β : Type} [Enc α] [Enc β] (off : Nat) (x : α) (z : β) (x' : α) : Prop where
  out : ∀ (c : Mem) (l m : List Value), Enc.rep c l x → Enc.rep c m z → off + m.length ≤ l.length ∧ Enc.rep c (l.take off ++ m ++ l.drop (off + m.length)) x'
theorem SetF.self {α : Type} [Enc α] {x z : α} : SetF 0 x z z := ⟨fun c l m h1 h2 => by
  have e : m.length = l.length := by rw [Enc.len h1, Enc.len h2]
  rw [Nat.zero_add, e, List.take_zero, List.nil_append, List.drop_length, List.append_nil]
  exact ⟨Nat.le_refl _, h2⟩⟩
theorem SetF.fst {α β γ : Type} [Enc α] [Enc β] [Enc γ] {off : Nat} {a a' : α} {b : β} {z : γ} (h : SetF off a z a') : SetF off (a, b) z (a', b) := ⟨fun c l m h1 h2 => by
  obtain ⟨l1, l2, rfl, k1, k2⟩ := h1
  obtain ⟨q1, q2⟩ := h.out c l1 m k1 h2
  refine ⟨by rw [List.length_append]; omega, l1.take off ++ m ++ l1.drop (off + m.length), l2, ?_, q2, k2⟩
  rw [List.take_append_of_le_length (by omega), List.drop_append_of_le_length (by omega)]
  simp only [List.append_assoc]⟩
theorem SetF.snd {α β γ : Type} [Enc α] [Enc β] [Enc γ] {off o : Nat} {a : α} {b b' : β} {z : γ} (h : SetF off b z b') (eo : Enc.size α + off = o) : SetF o (a, b) z (a, b') := ⟨fun c l m h1 h2 => by
  subst eo
  obtain ⟨l1, l2, rfl, k1, k2⟩ := h1
  obtain ⟨q1, q2⟩ := h.out c l2 m k2 h2
  have e := Enc.len k1
  refine ⟨by rw [List.length_append]; omega, l1, l2.take off ++ m ++ l2.drop (off + m.length), ?_, k1, q2⟩
  rw [← e, List.take_length_add_append, show l1.length + off + m.length = l1.length + (off + m.length) from by omega, List.drop_length_add_append]
  simp only [List.append_assoc]⟩
/-- A header that is a list from here on. -/
structure UnR {α α' β : Type} [Enc α] [Enc α'] [Enc β] (v : Value) (l : List β) (x : α) (x' : α') : Prop where
  out : ∀ (c : Mem) (cs : List Value), val c v l → Enc.rep c cs x → Enc.rep c cs x'
theorem UnR.self {β : Type} [Enc β] {v : Value} {l : List β} : UnR v l (Raw.mk v) l := ⟨fun c cs h1 h2 => by
  obtain ⟨u, rfl, h3, _⟩ := rep1_out h2
  have h3 : u = v := h3
  subst h3; exact h1⟩
theorem UnR.fst {α α' β γ : Type} [Enc α] [Enc α'] [Enc β] [Enc γ] {v : Value} {l : List β} {a : α} {a' : α'} {b : γ} (h : UnR v l a a') : UnR v l (a, b) (a', b) := ⟨fun c cs h1 h2 => by
  obtain ⟨l1, l2, rfl, k1, k2⟩ := h2
  exact ⟨l1, l2, rfl, h.out c l1 h1 k1, k2⟩⟩
theorem UnR.snd {α α' β γ : Type} [Enc α] [Enc α'] [Enc β] [Enc γ] {v : Value} {l : List β} {a : α} {a' : α'} {b : γ} (h : UnR v l a a') : UnR v l (b, a) (b, a') := ⟨fun c cs h1 h2 => by
  obtain ⟨l1, l2, rfl, k1, k2⟩ := h2
  exact ⟨l1, l2, rfl, k1, h.out c l2 h1 k2⟩⟩
structure FieldO (P : Program) (T : TypeId) (k o : Nat) : Prop where
  out : ∃ fs fd i, P.underlying T = some (.struct fs) ∧ fs[k]? = some fd ∧ P.info? fd.type = some i ∧ i.size ≠ 0 ∧ fd.offset = o
theorem FieldO.mk' {P : Program} {T : TypeId} {k o : Nat} {fs : Array Field} {fd : Field} (h1 : P.underlying T = some (.struct fs)) (h2 : fs[k]? = some fd) (h3 : (P.info? fd.type).map (fun i => Nat.beq i.size 0) = some false) (h4 : fd.offset = o) : FieldO P T k o := by
  cases h : P.info? fd.type with
  | none => rw [h] at h3; cases h3
  | some i =>
    rw [h] at h3
    simp only [Option.map_some, Option.some.injEq] at h3
    exact ⟨⟨fs, fd, i, h1, h2, h, (fun e => by rw [e] at h3; cases h3), h4⟩⟩
section
variable {P : Program} {Γ : List (Nat × Pr)} {ty : TypeId} {n : Nat} {F0 : Nat → Bool} {js : List Item} {w0 w : World} {a : Act} {ops : Array Oper} {Q : Exit → Act → World → Prop}
theorem sp_fieldAddrP {x : Operand} {T : TypeId} {k o b : Nat} (hf : FieldO P T k o) (hx : Od Γ x (Pr.ptr b)) : StepP P (.fieldAddr T x k) ty Γ (Pr.is (.pointer (some ⟨b, o, none⟩))) :=
  step_pure fun c w a hc hm => by
    have hv : a.eval x = .pointer (some ⟨b, 0, none⟩) := hx.get hm (by simp [Op.operands])
    obtain ⟨fs, fd, i, h1, h2, h3, h4, h5⟩ := hf.out
    refine ⟨.pointer (some ⟨b, o, none⟩), ?_, rfl⟩
    simp [execOp, plain, hv, Instr.fieldAt, run_underlying h1, h2, Instr.sureAddr, fieldPlace, Go.sizeOf, typeInfo, h3, h4, h5, Addr.add_lit]
variable {t : TypeId} {ps : String} {af : Array Edge} {r : List Oper} {Δ : List (Nat × Pr)}
/-- 'p.f = y', by what the operands are. -/
theorem s_storeV {k p b off : Nat} {T FT : TypeId} {y : Operand} {α β : Type} [Enc α] [Enc β] {x x' : α} {z : β} (hT : TyP P FT β) (h : St n F0 js Γ w0 a w) (hk : js[k]? = some (Item.box T b x)) (hl : AllOd Γ Δ) (hC : AllC Δ)
    (hpv : a.eval (.tmp p) = .pointer (some ⟨b, off, none⟩)) (hyv : val (vw (pf F0 (Its js)) w) (a.eval y) z) (hs : SetF off x z x')
    (K : ∀ w', St n F0 (js.set k (Item.box T b x')) Δ w0 a w' → Mem.le (vw (pf F0 (Its js)) w) (vw (pf F0 (Its (js.set k (Item.box T b x')))) w') → wpList P ops Q r a w') :
    wpList P ops Q (⟨none, .store FT (.tmp p) y, t, ps, af, none⟩ :: r) a w := by
  have h' := h.weak hl
  have hO : OwnB T 0 (vw (pf F0 (Its js)) w) w b x := h.it hk
  obtain ⟨cur, h1, h2⟩ := hO.out
  obtain ⟨i, hi, hsz⟩ := hT.info
  have hcells := val_cells hyv
  have hlen := Enc.len hcells
  have hone := Enc.cell hcells
  obtain ⟨hfit, hrep⟩ := hs.out _ _ _ h2 hcells
  have hst := run_storeCells_at P b off T (a.eval y).cells.toList 0 cur w h1 (by simp at hfit; omega) hone
  have hcs : (a.eval y).cells.size = i.size := by rw [hsz, ← hlen]; simp
  have hr : (execOp a.eval ⟨none, .store FT (.tmp p) y, t, ps, af, none⟩).run P w = .ok .skip (w.setRow b (cur.toList.take off ++ (a.eval y).cells.toList ++ cur.toList.drop (off + (a.eval y).cells.toList.length)).toArray) := by
    simp only [Nat.add_zero] at hst
    simp only [execOp, hpv, Instr.storeAt, Instr.sureAddr, storeVar, Go.sizeOf, typeInfo, Sem.run_bind, run_program, Result.andThen_ok, hi, Sem.run_pure]
    simp [hcs, hst]
  unfold wpList
  simp only [Region.wanted, if_true]
  refine .inl (wp_of_ex ?_)
  unfold Ex
  rw [hr]
  generalize hcat : (cur.toList.take off ++ (a.eval y).cells.toList ++ cur.toList.drop (off + (a.eval y).cells.toList.length)).toArray = cat
  have hblk : ∀ q, q < w.heap.size → bx b q = false → (w.setRow b cat).heap[q]? = w.heap[q]? := fun q hq hb => setRow_other _ _ _ _ (fun e => by rw [bx_iff.2 e] at hb; cases hb)
  have hset := set_self (its_at hk)
  have hle := vw_turn (F0 := F0) (its_at hk) hblk (o' := bx b) (fun q hq => .inl hq)
  have hsize : (w.setRow b cat).heap.size = w.heap.size := by simp
  have hlow := h.low k _ b hk (bx_iff.2 rfl)
  have hB : Below w0.heap.size w0 (w.setRow b cat) := h.below.trans ⟨rfl, rfl, rfl, by rw [hsize]; exact Nat.le_refl _, fun q hq => setRow_other _ _ _ _ (fun e => by omega), Nat.le_refl _⟩
  refine K _ (h'.change hk (it' := Item.box T b x') (h'.at_.turn hC hle fun q hq => ?_) hB (by rw [hsize]; exact Nat.le_refl _) (fun q hq => .inl hq) ⟨⟨_, setRow_heap w b cur _ T _ h1, Enc.mono hle (by rw [← hcat]; simpa using hrep)⟩, Nat.zero_le _⟩ hblk hle) ?_
  · rw [hsize]
    have hq' : pf F0 ((Its js).set k (bx b)) q = true := hq
    have e : (Its js).set k (bx b) = Its js := hset
    rw [e] at hq'
    exact h.at_.own q hq'
  · rw [its_set]; exact hle
/-- 'p.f = y'. -/
theorem s_storeP {k p b off : Nat} {T FT : TypeId} {y : Operand} {α β : Type} [Enc α] [Enc β] {x x' : α} {z : β} (hT : TyP P FT β) (h : St n F0 js Γ w0 a w) (hk : js[k]? = some (Item.box T b x)) (hl : AllOd Γ Δ) (hC : AllC Δ)
    (hp : Od Γ (.tmp p) (Pr.is (.pointer (some ⟨b, off, none⟩)))) (hy : Od Γ y (isV z)) (hs : SetF off x z x')
    (K : ∀ w', St n F0 (js.set k (Item.box T b x')) Δ w0 a w' → Mem.le (vw (pf F0 (Its js)) w) (vw (pf F0 (Its (js.set k (Item.box T b x')))) w') → wpList P ops Q r a w') :
    wpList P ops Q (⟨none, .store FT (.tmp p) y, t, ps, af, none⟩ :: r) a w :=
  s_storeV hT h hk hl hC (hp.get (h.at_.met [.tmp p]) (by simp)) (hy.get (h.at_.met [y]) (by simp)) hs K
/-- A header in a variable is a list from here on. -/
theorem st_unraw {α α' β : Type} [Enc α] [Enc α'] [Enc β] {T E : TypeId} {b : Nat} {v : Value} {l : List β} {x : α} {x' : α'} (ks kb : Nat) (h : St n F0 js Γ w0 a w) (hs : js[ks]? = some (Item.sl E v l)) (hb : (js.eraseIdx ks)[kb]? = some (Item.box T b x)) (hu : UnR v l x x') :
    St n F0 ((js.eraseIdx ks).set kb (Item.box T b x')) Γ w0 a w := by
  have hO := own_up (h.it hs) (B := w0.heap.size) (fun b hb => h.low ks _ b hs hb)
  have hv : val (vw (pf F0 (Its (js.eraseIdx ks))) w) v l := by
    have := own_free (F0 := pf F0 (Its (js.eraseIdx ks))) hO (by rw [its_erase]; exact fun b hb => pf_erase hb) (fun q hq => by
      rw [its_erase]
      refine erase_out h.apart (its_at hs) (ob_iff.2 hq) ?_
      cases hf : F0 q with
      | false => rfl
      | true => have := (own_lt hO (ob_iff.2 hq)).1; have := h.base q hf; omega)
    exact this
  exact (st_drop ks h).swap hb rfl fun hB => by
    obtain ⟨cur, h1, h2⟩ := OwnB.out hB
    exact ⟨⟨cur, h1, hu.out _ _ hv h2⟩, Nat.zero_le _⟩
end
end Go.Proofs.YtnnhmgcigoiceaaGreatDoor.Wh

namespace Go.Proofs.YtnnhmgcigoiceaaGreatDoor.Wh
open Go Go.RowKit

/-! ### the order of things -/
theorem pf_congr {F0 : Nat → Bool} {os os' : List (Nat → Bool)} (h : ∀ o, o ∈ os' ↔ o ∈ os) : pf F0 os' = pf F0 os := by
  funext b
  apply Bool.eq_iff_iff.2
  rw [pf_iff, pf_iff]
  constructor
  · rintro (h1 | ⟨j, o, hj, hb⟩)
    · exact .inl h1
    · obtain ⟨i, hi⟩ := List.mem_iff_getElem?.1 ((h o).1 (List.mem_of_getElem? hj))
      exact .inr ⟨i, o, hi, hb⟩
  · rintro (h1 | ⟨j, o, hj, hb⟩)
    · exact .inl h1
    · obtain ⟨i, hi⟩ := List.mem_iff_getElem?.1 ((h o).2 (List.mem_of_getElem? hj))
      exact .inr ⟨i, o, hi, hb⟩
section
variable {P : Program} {Γ : List (Nat × Pr)} {n : Nat} {F0 : Nat → Bool} {js : List Item} {w0 w : World} {a : Act} {ops : Array Oper} {Q : Exit → Act → World → Prop}
theorem St.reindex {js' : List Item} (h : St n F0 js Γ w0 a w) (σ : Nat → Nat) (hi : ∀ (i : Nat) (it : Item), js'[i]? = some it → js[σ i]? = some it) (hinj : ∀ i j, i < js'.length → j < js'.length → σ i = σ j → i = j) (hs : ∀ it ∈ js, it ∈ js') : St n F0 js' Γ w0 a w := by
  have e : pf F0 (Its js') = pf F0 (Its js) := pf_congr fun o => by
    constructor
    · intro ho
      obtain ⟨it, hm, rfl⟩ := List.mem_map.1 ho
      obtain ⟨i, hk⟩ := List.mem_iff_getElem?.1 hm
      exact List.mem_map.2 ⟨it, List.mem_of_getElem? (hi i it hk), rfl⟩
    · intro ho
      obtain ⟨it, hm, rfl⟩ := List.mem_map.1 ho
      exact List.mem_map.2 ⟨it, hs it hm, rfl⟩
  refine ⟨by rw [e]; exact h.at_, fun i j o u ho hu hij b hb => ?_, fun k it hk => by rw [e]; exact h.own (σ k) it (hi k it hk), fun k it b hk hb => h.low (σ k) it b (hi k it hk) hb, h.below, h.base⟩
  obtain ⟨x, hx, rfl⟩ := its_get ho
  obtain ⟨y, hy, rfl⟩ := its_get hu
  exact h.apart (σ i) (σ j) _ _ (its_at (hi i x hx)) (its_at (hi j y hy)) (fun q => hij (hinj i j (List.getElem?_eq_some_iff.1 hx).1 (List.getElem?_eq_some_iff.1 hy).1 q)) b hb
/-- One thing to the front. -/
theorem st_front {it : Item} (k : Nat) (h : St n F0 js Γ w0 a w) (hk : js[k]? = some it) : St n F0 (it :: js.eraseIdx k) Γ w0 a w := by
  have hkl : k < js.length := (List.getElem?_eq_some_iff.1 hk).1
  refine h.reindex (fun i => match i with | 0 => k | i + 1 => if i < k then i else i + 1) (fun i u hu => ?_) (fun i j hi hj e => ?_) fun u hu => ?_
  · cases i with
    | zero => simp at hu; subst hu; exact hk
    | succ i =>
      simp only [List.getElem?_cons_succ, List.getElem?_eraseIdx] at hu
      show js[if i < k then i else i + 1]? = some u
      split at hu
      · rename_i q; rw [if_pos q]; exact hu
      · rename_i q; rw [if_neg q]; exact hu
  · cases i with
    | zero =>
      cases j with
      | zero => rfl
      | succ j =>
        have e : k = if j < k then j else j + 1 := e
        split at e <;> omega
    | succ i =>
      cases j with
      | zero =>
        have e : (if i < k then i else i + 1) = k := e
        split at e <;> omega
      | succ j =>
        have e : (if i < k then i else i + 1) = if j < k then j else j + 1 := e
        split at e <;> split at e <;> omega
  · obtain ⟨i, hi⟩ := List.mem_iff_getElem?.1 hu
    by_cases q : i = k
    · subst q; rw [hk] at hi; cases hi; simp
    · refine List.mem_cons_of_mem _ (List.mem_iff_getElem?.2 ⟨if i < k then i else i - 1, ?_⟩)
      rw [List.getElem?_eraseIdx]
      by_cases q2 : i < k
      · rw [if_pos q2, if_pos q2]; exact hi
      · rw [if_neg q2, if_neg (by omega), show i - 1 + 1 = i by omega]; exact hi
/-- What came last, to a place. -/
theorem st_rot {it : Item} (k : Nat) (h : St n F0 (js ++ [it]) Γ w0 a w) (hk : Nat.ble k js.length = true) : St n F0 (js.take k ++ it :: js.drop k) Γ w0 a w := by
  have hk := Nat.le_of_ble_eq_true hk
  have hl : (js.take k).length = k := by rw [List.length_take]; omega
  refine h.reindex (fun i => if i < k then i else if i = k then js.length else i - 1) (fun i u hu => ?_) (fun i j hi hj e => ?_) fun u hu => ?_
  · show (js ++ [it])[if i < k then i else if i = k then js.length else i - 1]? = some u
    rw [List.getElem?_append, hl] at hu
    by_cases q : i < k
    · rw [if_pos q] at hu ⊢
      rw [List.getElem?_take, if_pos q] at hu
      rw [List.getElem?_append_left (by omega)]; exact hu
    · rw [if_neg q] at hu ⊢
      by_cases q2 : i = k
      · rw [if_pos q2, List.getElem?_append_right (Nat.le_refl _), Nat.sub_self]
        rw [q2, Nat.sub_self] at hu
        simpa using hu
      · rw [if_neg q2]
        obtain ⟨m, hm⟩ : ∃ m, i - k = m + 1 := ⟨i - k - 1, by omega⟩
        rw [hm, List.getElem?_cons_succ, List.getElem?_drop, show k + m = i - 1 by omega] at hu
        rw [List.getElem?_append_left (List.getElem?_eq_some_iff.1 hu).1]; exact hu
  · rw [List.length_append, hl, List.length_cons, List.length_drop] at hi hj
    split at e
    · split at e
      · exact e
      · split at e <;> omega
    · split at e
      · split at e
        · omega
        · split at e <;> omega
      · split at e
        · omega
        · split at e <;> omega
  · rcases List.mem_append.1 hu with q | q
    · rw [← List.take_append_drop k js] at q
      rcases List.mem_append.1 q with q | q
      · exact List.mem_append_left _ q
      · exact List.mem_append_right _ (List.mem_cons_of_mem _ q)
    · simp at q; subst q
      exact List.mem_append_right _ (List.mem_cons_self ..)
/-! ### calls that change things -/
structure Wst (F0 : Nat → Bool) (js : List Item) (w0 w : World) : Prop where
  lt : ∀ b, pf F0 (Its js) b = true → b < w.heap.size
  apart : Apart (Its js)
  own : ∀ (k : Nat) (it : Item), js[k]? = some it → it.p (vw (pf F0 (Its js)) w) w
  low : ∀ (k : Nat) (it : Item) (b : Nat), js[k]? = some it → it.o b = true → w0.heap.size ≤ b
  below : Below w0.heap.size w0 w
  base : ∀ b, F0 b = true → b < w0.heap.size
theorem St.wst (h : St n F0 js Γ w0 a w) : Wst F0 js w0 w := ⟨h.at_.own, h.apart, h.own, h.low, h.below, h.base⟩
/-- What a call leaves: things and a result; what else is said of them. -/
structure ResF where
  X : Type
  js : X → List Item
  φ : X → Pr
def CallF (P : Program) (f : FuncId) (js : List Item) (φs : List Pr) (ρ : ResF) : Prop :=
  ∀ (F0 : Nat → Bool) (fr : List Item) (w0 w : World) (vs : List Value), Wst F0 (js ++ fr) w0 w → Fit (v2 (pf F0 (Its (js ++ fr))) w) φs vs →
    Calls P f vs.toArray w fun e w' => ∃ v x, e = .returned v ∧ Wst F0 (ρ.js x ++ fr) w0 w' ∧ Mem.le (vw (pf F0 (Its (js ++ fr))) w) (vw (pf F0 (Its (ρ.js x ++ fr))) w') ∧ (ρ.φ x).p (v2 (pf F0 (Its (ρ.js x ++ fr))) w') v
/-- What was seen is still seen. -/
def Pr.seen (c0 : Mem) : Pr := ⟨fun c _ => Mem.le c0 c.c, fun hc h => Mem.le_trans h hc.1⟩
def FinF (P : Program) (fn : Func) (F0 : Nat → Bool) (fr : List Item) (w0 : World) (c0 : Mem) (ρ : ResF) : Exit → Act → World → Prop :=
  bodyPost P fn fun e w' => ∃ v x, e = .returned v ∧ Wst F0 (ρ.js x ++ fr) w0 w' ∧ Mem.le c0 (vw (pf F0 (Its (ρ.js x ++ fr))) w') ∧ (ρ.φ x).p (v2 (pf F0 (Its (ρ.js x ++ fr))) w') v
theorem callF_of {f : FuncId} {fn : Func} {c : Code} {n : Nat} {φs : List Pr} {ρ : ResF} (hf : P.funcs[f]? = some fn) (hb : fn.body = some c) (hn : fn.ntmps = n) (hl : Nat.ble φs.length n = true)
    (h : ∀ (F0 : Nat → Bool) (fr : List Item) (w0 w : World) (c0 : Mem) (a : Act), St n F0 (js ++ fr) (zipG 0 φs ++ [(1000000, Pr.seen c0)]) w0 a w → c.wp P (FinF P fn F0 fr w0 c0 ρ) a w) : CallF P f js φs ρ := by
  intro F0 fr w0 w vs hW hfit
  refine calls_of_wp hf hb (h F0 fr w0 w (vw (pf F0 (Its (js ++ fr))) w) _ ⟨⟨?_, rfl, hW.lt, ?_⟩, hW.apart, hW.own, hW.low, hW.below, hW.base⟩)
  · have := hfit.len
    have := Nat.le_of_ble_eq_true hl
    simp [hn]; omega
  · intro t φ e
    have key : ∀ (Γ1 : List (Nat × Pr)) (Γ2 : List (Nat × Pr)), lk (Γ1 ++ Γ2) t = some φ → lk Γ1 t = some φ ∨ lk Γ2 t = some φ := by
      intro Γ1
      induction Γ1 with
      | nil => intro Γ2 h; exact .inr h
      | cons x r ih =>
        intro Γ2 h
        obtain ⟨s, ψ⟩ := x
        simp only [List.cons_append, lk] at h ⊢
        cases hbq : Nat.beq s t with
        | true => rw [hbq] at h; exact .inl h
        | false => rw [hbq] at h; exact ih Γ2 h
    rcases key _ _ e with e | e
    · have := sat_enter (c := v2 (pf F0 (Its (js ++ fr))) w) (n := n - vs.length) 0 [] hfit rfl t φ e
      unfold tmp
      rw [Array.getD_eq_getD_getElem?]
      have e2 : ((vs.toArray ++ Array.replicate (fn.ntmps - vs.toArray.size) undef)[t]?) = ([] ++ vs ++ List.replicate (n - vs.length) undef)[t]? := by
        rw [← Array.getElem?_toList]; simp [hn]
      rw [e2]; exact this
    · simp only [lk] at e
      cases hbq : Nat.beq 1000000 t with
      | true =>
        rw [hbq] at e
        simp only [cond_true, Option.some.injEq] at e
        subst e
        exact Mem.le_refl _
      | false => rw [hbq] at e; cases e
theorem st_retF {fn : Func} {fr : List Item} {c0 : Mem} {ρ : ResF} {v : Value} (x : ρ.X) (h : St n F0 (ρ.js x ++ fr) Γ w0 a w) (hr : (results fn a.tmps).run P w = .ok v w) (hs : lk Γ 1000000 = some (Pr.seen c0)) (hv : (ρ.φ x).p (v2 (pf F0 (Its (ρ.js x ++ fr))) w) v) : FinF P fn F0 fr w0 c0 ρ .ret a w :=
  ⟨h.at_.defers, v, hr, v, x, rfl, h.wst, h.at_.sat 1000000 _ hs, hv⟩
theorem st_normalF {fn : Func} {fr : List Item} {c0 : Mem} {ρ : ResF} {v : Value} (x : ρ.X) (h : St n F0 (ρ.js x ++ fr) Γ w0 a w) (hr : (results fn a.tmps).run P w = .ok v w) (hs : lk Γ 1000000 = some (Pr.seen c0)) (hv : (ρ.φ x).p (v2 (pf F0 (Its (ρ.js x ++ fr))) w) v) : FinF P fn F0 fr w0 c0 ρ .normal a w :=
  ⟨h.at_.defers, v, hr, v, x, rfl, h.wst, h.at_.sat 1000000 _ hs, hv⟩
/-- A function value, known by its function and by what it holds. -/
def Pr.clo (g : FuncId) (κs : List Pr) : Pr := ⟨fun c v => ∃ cap : Array Value, v = .func (.func g) #[] cap ∧ Fit ⟨c.c, c.c⟩ κs cap.toList,
  fun {c c' _} hc ⟨cap, h1, h2⟩ => ⟨cap, h1, Fit.mono (c := ⟨c.c, c.c⟩) (c' := ⟨c'.c, c'.c⟩) ⟨hc.1, hc.1⟩ h2⟩⟩
theorem sp_makeClo {ty : TypeId} {g : FuncId} {xs : Array Operand} {κs : List Pr} (hC : OnlyC κs) (hx : OdL Γ xs.toList κs) : StepP P (.makeFunc (.func g) #[] xs) ty Γ (Pr.clo g κs) :=
  step_pure fun c w a hc hm => by
    have hfit := hx.fit hm (fun y hy => by simpa [Op.operands] using hy)
    exact ⟨.func (.func g) #[] (xs.map a.eval), by simp [execOp, plain, Instr.makeFunc], _, rfl, Fit.only hC (by simpa using hfit)⟩
variable {t : TypeId} {ps : String} {af : Array Edge} {r : List Oper} {Δ : List (Nat × Pr)}
theorem s_callF {d f : Nat} {g : Operand} {xs : Array Operand} {ts : Array TypeId} {φs κs : List Pr} {js1 fr : List Item} {ρ : ResF} (he : Enters P f) (hc : CallF P f js1 (φs ++ κs) ρ) (h : St n F0 (js1 ++ fr) Γ w0 a w) (hl : AllOd Γ Δ) (hC : AllC Δ)
    (hg : Od Δ g (Pr.clo f κs)) (hx : OdL Δ xs.toList φs) (hd : Nat.blt d n = true)
    (K : ∀ a' w' x, St n F0 (ρ.js x ++ fr) ((d, ρ.φ x) :: Δ) w0 a' w' → Mem.le (vw (pf F0 (Its (js1 ++ fr))) w) (vw (pf F0 (Its (ρ.js x ++ fr))) w') → wpList P ops Q r a' w') :
    wpList P ops Q (⟨some d, .call { callee := .value g, args := xs, argTypes := ts }, t, ps, af, none⟩ :: r) a w := by
  have h' := h.weak hl
  have hm : ∀ xs, Met Δ xs (v2 (pf F0 (Its (js1 ++ fr))) w) a := h'.at_.met
  have hfit := OdL.fit (hm (Op.call { callee := .value g, args := xs, argTypes := ts }).operands.toList) hx (fun y hy => mem_call hy)
  obtain ⟨cap, hv, hk⟩ := hg.get (hm (Op.call { callee := .value g, args := xs, argTypes := ts }).operands.toList) (by simp [Op.operands, Call.operands])
  have hrun : (execOp a.eval ⟨some d, .call { callee := .value g, args := xs, argTypes := ts }, t, ps, af, none⟩).run P w = .ok (.enter f (xs.toList.map a.eval ++ cap.toList).toArray) w := by
    have h1 : xs.map a.eval ++ cap = (xs.toList.map a.eval ++ cap.toList).toArray := by
      apply Array.ext'; simp
    simp [execOp, resolve, hv, Deferred.ofValue, invoke, h1, he _ w]
  unfold wpList
  simp only [Region.wanted, if_true]
  refine .inl (wp_of_ex ?_)
  unfold Ex
  rw [hrun]
  refine (hc F0 fr w0 w _ h'.wst (hfit.append (Fit.mono (c := ⟨vw (pf F0 (Its (js1 ++ fr))) w, vw (pf F0 (Its (js1 ++ fr))) w⟩) (c' := v2 (pf F0 (Its (js1 ++ fr))) w) ⟨Mem.le_refl _, fun _ _ h => vw_cell h⟩ hk))).mono fun e w' ⟨v, x, hev, hW, hM, hp⟩ => ⟨v, hev, ?_⟩
  have hA : At n (pf F0 (Its (ρ.js x ++ fr))) Δ a w' := h'.at_.turn hC hM hW.lt
  exact K _ w' x ⟨hA.put (by simpa [Nat.blt_eq] using hd) hp, hW.apart, hW.own, hW.low, hW.below, hW.base⟩ hM
end
end Go.Proofs.YtnnhmgcigoiceaaGreatDoor.Wh

namespace Go.Proofs.YtnnhmgcigoiceaaGreatDoor.Wh
open Go Go.RowKit

theorem SetF.vec {α : Type} [Enc α] {n : Nat} {x x' : Vector α n} {i : Int} {z : α} (h : setA x i z = some x') : SetF (i.toNat * Enc.size α) x z x' := ⟨fun c l m h1 h2 => by
  unfold setA at h
  split at h
  · rename_i q
    cases h
    have h1 : RepL c l x.toList := h1
    have hl : i.toNat < x.toList.length := by simpa using q.2
    have hlen := RepL.len h1
    have hm := Enc.len h2
    refine ⟨?_, ?_⟩
    · rw [hlen, hm, ← Nat.succ_mul]
      exact Nat.mul_le_mul_right _ hl
    · have := RepL.set i.toNat h1 h2 hl
      show RepL c _ (x.set i.toNat z q.2).toList
      rw [Vector.toList_set]
      exact this
  · cases h⟩
section
variable {P : Program} {Γ : List (Nat × Pr)} {ty : TypeId} {n : Nat} {F0 : Nat → Bool} {js : List Item} {w0 w : World} {a : Act} {ops : Array Oper} {Q : Exit → Act → World → Prop}
theorem sp_indexAddrP {α : Type} [Enc α] {x k : Operand} {T E : TypeId} {m b : Nat} {v v' : Vector α m} {i : Int} {z : α} (hT : ArP P T E m α) (hx : Od Γ x (Pr.ptr b)) (hk : Od Γ k (isV i)) (h : setA v i z = some v') : StepP P (.indexAddr T x k) ty Γ (Pr.is (.pointer (some ⟨b, i.toNat * Enc.size α, none⟩))) :=
  step_pure fun c w a hc hm => by
    have hkv := get_int hk hm (by simp [Op.operands])
    have hv : a.eval x = .pointer (some ⟨b, 0, none⟩) := hx.get hm (by simp [Op.operands])
    unfold setA at h
    split at h
    · rename_i q
      refine ⟨.pointer (some ⟨b, i.toNat * Enc.size α, none⟩), ?_, rfl⟩
      have hi : 0 ≤ i ∧ i < (m : Int) := ⟨q.1, by omega⟩
      simp [execOp, plain, hkv, hv, Instr.indexAt, Instr.sureAddr, asIntOf, run_underlying hT.desc, hi, hT.elem.sizeOf w, Addr.add_lit]
    · cases h
theorem sp_indexAddrPI {α : Type} [Enc α] {x k : Operand} {T E : TypeId} {m b : Nat} {v : Vector α m} {i : Int} {y : α} (hT : ArP P T E m α) (hx : Od Γ x (Pr.ptr b)) (hk : Od Γ k (isV i)) (h : idxA v i = some y) : StepP P (.indexAddr T x k) ty Γ (Pr.is (.pointer (some ⟨b, i.toNat * Enc.size α, none⟩))) :=
  sp_indexAddrP (z := y) (v' := v.set i.toNat y (by obtain ⟨_, hlt, _⟩ := idx_some h; simpa using hlt)) hT hx hk (by
    obtain ⟨h0, hlt, _⟩ := idx_some h
    unfold setA
    rw [dif_pos ⟨h0, by simpa using hlt⟩])
/-! ### a function value that holds the place of its own variable -/
/-- The place of a variable that holds a function value: what it holds, and this place last. -/
def Pr.selfc (g : FuncId) (κs : List Pr) : Pr := ⟨fun c v => ∃ b off cap, v = .pointer (some ⟨b, off, none⟩) ∧ c.c ⟨b, off, none⟩ = some (.func (.func g) #[] (cap ++ [v]).toArray) ∧ Fit ⟨c.c, c.c⟩ κs cap,
  fun {c c' _} hc ⟨b, off, cap, h1, h2, h3⟩ => ⟨b, off, cap, h1, hc.1 _ _ h2, Fit.mono (c := ⟨c.c, c.c⟩) (c' := ⟨c'.c, c'.c⟩) ⟨hc.1, hc.1⟩ h3⟩⟩
theorem sp_loadSelf {x : Operand} {T : TypeId} {g : FuncId} {κs : List Pr} (hT : TyP P T Raw) (hx : Od Γ x (Pr.selfc g κs)) : StepP P (.load T x) ty Γ (Pr.clo g (κs ++ [Pr.selfc g κs])) :=
  step_pure fun c w a hc hm => by
    obtain ⟨b, off, cap, hv, hcell, hfit⟩ := hx.get hm (by simp [Op.operands])
    obtain ⟨u, hrun, hval⟩ := run_load_cells (P := P) hT (c := c.c) (x := Raw.mk (.func (.func g) #[] (cap ++ [a.eval x]).toArray)) (vs := [.func (.func g) #[] (cap ++ [a.eval x]).toArray]) (b := b) (off := off) ⟨rfl, rfl⟩ (w := w) (fun j v e => by
      cases j with
      | zero => simp at e; subst e; exact hc.1 _ _ hcell
      | succ j => simp at e)
    have hu : u = .func (.func g) #[] (cap ++ [a.eval x]).toArray := hval.1
    refine ⟨u, by simp [execOp, plain, hv, Instr.loadAt, Instr.sureAddr, hrun], _, hu, ?_⟩
    rw [List.toList_toArray]
    exact hfit.append ⟨⟨b, off, cap, hv, hcell, hfit⟩, trivial⟩
/-- A function value that is to be held by its own variable. -/
def Pr.cloP (g : FuncId) (κs : List Pr) (b : Nat) : Pr := ⟨fun c v => ∃ cap : List Value, v = .func (.func g) #[] (cap ++ [Value.pointer (some ⟨b, 0, none⟩)]).toArray ∧ Fit ⟨c.c, c.c⟩ κs cap,
  fun {c c' _} hc ⟨cap, h1, h2⟩ => ⟨cap, h1, Fit.mono (c := ⟨c.c, c.c⟩) (c' := ⟨c'.c, c'.c⟩) ⟨hc.1, hc.1⟩ h2⟩⟩
theorem sp_makeSelf {g : FuncId} {xs : List Operand} {p : Operand} {κs : List Pr} {b : Nat} (hC : OnlyC κs) (hx : OdL Γ xs κs) (hp : Od Γ p (Pr.ptr b)) : StepP P (.makeFunc (.func g) #[] (xs ++ [p]).toArray) ty Γ (Pr.cloP g κs b) :=
  step_pure fun c w a hc hm => by
    have hfit := hx.fit hm (fun y hy => by simp [Op.operands]; exact .inl hy)
    have hv : a.eval p = .pointer (some ⟨b, 0, none⟩) := hp.get hm (by simp [Op.operands])
    exact ⟨.func (.func g) #[] ((xs ++ [p]).toArray.map a.eval), by simp [execOp, plain, Instr.makeFunc], xs.map a.eval, by simp [hv], Fit.only hC hfit⟩
variable {t : TypeId} {ps : String} {af : Array Edge} {r : List Oper} {Δ : List (Nat × Pr)}
theorem s_storeSelf {k p b : Nat} {T : TypeId} {y : Operand} {x : Raw} {g : FuncId} {κs : List Pr} (hT : TyP P T Raw) (h : St n F0 js Γ w0 a w) (hk : js[k]? = some (Item.box T b x)) (hl : AllOd Γ Δ) (hC : AllC Δ) (hp : lk Δ p = some (Pr.ptr b)) (hy : Od Γ y (Pr.cloP g κs b))
    (K : ∀ w', St n F0 (js.eraseIdx k) ((p, Pr.selfc g κs) :: Δ) w0 a w' → wpList P ops Q r a w') :
    wpList P ops Q (⟨none, .store T (.tmp p) y, t, ps, af, none⟩ :: r) a w := by
  obtain ⟨cap, hv, hfit⟩ := hy.get (h.at_.met [y]) (by simp)
  have hpv : tmp a p = .pointer (some ⟨b, 0, none⟩) := (h.weak hl).at_.sat p _ hp
  refine s_storeV (off := 0) (z := Raw.mk (a.eval y)) hT h hk hl hC hpv ⟨rfl, by rw [hv]; rfl⟩ SetF.self fun w' hS hM => ?_
  have hk' : (js.set k (Item.box T b (Raw.mk (a.eval y))))[k]? = some (Item.box T b (Raw.mk (a.eval y))) := List.getElem?_set_self (List.getElem?_eq_some_iff.1 hk).1
  have e : (js.set k (Item.box T b (Raw.mk (a.eval y)))).eraseIdx k = js.eraseIdx k := List.eraseIdx_set_eq
  have hd := st_drop k hS
  have hf := st_freezeB k p hS hk' hp
  rw [e] at hd hf
  refine K w' (hd.put_fact ?_)
  have hA : (isA (Raw.mk (a.eval y))).p (v2 (pf F0 (Its (js.eraseIdx k))) w') (tmp a p) := hf.at_.sat p _ (by simp [lk])
  obtain ⟨b', off, h1, vs, h2, h3⟩ := hA
  rw [hpv] at h1
  cases h1
  obtain ⟨u, rfl, h4, _⟩ := rep1_out h2
  have h4 : u = a.eval y := h4
  subst h4
  refine ⟨b, 0, cap, hpv, ?_, Fit.mono (c := ⟨vw (pf F0 (Its js)) w, vw (pf F0 (Its js)) w⟩) ⟨?_, ?_⟩ hfit⟩
  · have := h3 0 (a.eval y) rfl
    rw [hpv, ← hv]
    exact this
  · refine Mem.le_trans hM ?_
    rw [← e, its_erase]
    exact vw_less fun _ hb => pf_erase hb
  · refine Mem.le_trans hM ?_
    rw [← e, its_erase]
    exact vw_less fun _ hb => pf_erase hb
theorem repL_take {α : Type} [Enc α] {c : Mem} : ∀ {cells : List Value} {xs : List α}, RepL c cells xs → ∀ k, RepL c (cells.take (k * Enc.size α)) (xs.take k)
  | _, [], h, k => by cases h; simp [RepL]
  | _, x :: r, _, 0 => by simp [RepL]
  | _, x :: r, ⟨v1, v2, he, h1, h2⟩, k + 1 => by
    have e := Enc.len h1
    refine ⟨v1, v2.take (k * Enc.size α), ?_, h1, repL_take h2 k⟩
    rw [he, Nat.succ_mul, Nat.add_comm, ← e, List.take_length_add_append]
/-! ### own slices cut short -/
def cutV (v : Value) (m : Int) : Value := match v with | .slice a _ cap => .slice a m.toNat cap | u => u
def CutOK (v : Value) (m : Int) : Prop := 0 ≤ m ∧ ((v = .slice none 0 0 ∧ m = 0) ∨ ∃ g len cap, v = .slice (some ⟨g, 0, none⟩) len cap ∧ m.toNat ≤ cap)
theorem sp_cut {x hi : Operand} {T E : TypeId} {v : Value} {m : Int} {α : Type} [Enc α] (hT : SlP P T E α) (hx : Od Γ x (Pr.is v)) (hh : Od Γ hi (isV m)) (hc : CutOK v m) : StepP P (.slice T x none (some hi) none) ty Γ (Pr.is (cutV v m)) :=
  step_pure fun c w a hc' hm => by
    have hv : a.eval x = v := hx.get hm (by simp [Op.operands])
    have hk := get_int hh hm (by simp [Op.operands])
    obtain ⟨h0, ⟨rfl, rfl⟩ | ⟨g, len, cap, rfl, hle⟩⟩ := hc
    · refine ⟨.slice none 0 0, ?_, rfl⟩
      simp [execOp, plain, hv, hk, Instr.sliceAt, Instr.slice, Instr.sliceBounds, Instr.sliceBound, asIntOf, run_underlying hT.desc, hT.elem.sizeOf w]
    · refine ⟨.slice (some ⟨g, 0, none⟩) m.toNat cap, ?_, rfl⟩
      have hi : 0 ≤ m ∧ m ≤ (cap : Int) := ⟨h0, by omega⟩
      simp [execOp, plain, hv, hk, Instr.sliceAt, Instr.slice, Instr.sliceBounds, Instr.sliceBound, asIntOf, run_underlying hT.desc, hT.elem.sizeOf w, hi, Addr.add_lit]
/-! ### own slices that are laid with what they hold -/
theorem s_build {d n' : Nat} {T E : TypeId} {α : Type} [Enc α] {parts : Array (Nat × Operand)} (os : List Operand) (ds : List α) (hT : SlP P T E α) (hz : ZeroP P E α)
    (hp : parts.toList = (os.zipIdx 0).map fun x => (x.2, x.1)) (hn : n' = os.length) (hpos : Nat.blt 0 n' = true) (hsm : Nat.ble (n' * Enc.size α) 16777216 = true) (h : St n F0 js Γ w0 a w) (hx : OdL Γ os (ds.map isV)) (hd : Nat.blt d n = true)
    (K : ∀ a' w' v, St n F0 (js ++ [Item.sl E v ds]) ((d, Pr.is v) :: Γ) w0 a' w' → Mem.le (vw (pf F0 (Its js)) w) (vw (pf F0 (Its (js ++ [Item.sl E v ds]))) w') → wpList P ops Q r a' w') :
    wpList P ops Q (⟨some d, .buildSlice T n' parts, t, ps, af, none⟩ :: r) a w := by
  obtain ⟨i, z, hi, hzz, hsz, hzs, hps, _⟩ := hz.out
  have hfit := OdL.fit (h.at_.met os) hx (fun y hy => hy)
  obtain ⟨hrl, hcs⟩ := fit_repL hfit
  have hlen : ds.length = n' := by have := hfit.len; simp at this; omega
  have hpos' : 0 < n' := by simpa [Nat.blt_eq] using hpos
  have hsm' := Nat.le_of_ble_eq_true hsm
  have hprt : (parts.map fun (i, x) => (i, a.eval x)).toList = ((os.map a.eval).zipIdx 0).map fun x => (x.2, x.1) := by
    rw [Array.toList_map, hp]
    apply List.ext_getElem?
    intro k
    simp [List.getElem?_zipIdx]
    cases os[k]? <;> simp
  have hfill := Go.Great.fill_whole (s := i.size) (by rw [hsz]; exact hps) (os.map a.eval) ((Array.range (n' * i.size)).map (z.cells[· % z.cells.size]!)) (fun v hv => by rw [hsz]; exact hcs v hv) (by simp [hn])
  have hr := run_buildSlice (P := P) w T E n' (parts.map fun (i, x) => (i, a.eval x)) _ i z hT.desc hi hzz (by rw [hsz]; omega) (by rw [hsz]; exact Nat.ne_of_gt (Nat.mul_pos hpos' hps)) (by rw [hprt]; exact hfill)
  have hrun : (execOp a.eval ⟨some d, .buildSlice T n' parts, t, ps, af, none⟩).run P w = .ok (.value (.slice (some ⟨w.heap.size, 0, none⟩) n' n')) (w.alloc (.cells ((os.map a.eval).flatMap fun v => v.cells.toList).toArray E)) := by
    simp only [execOp, Sem.run_bind, hr, Result.andThen_ok, Sem.run_pure]
  unfold wpList
  simp only [Region.wanted, if_true]
  refine .inl (wp_of_ex ?_)
  unfold Ex
  rw [hrun]
  generalize hcells : ((os.map a.eval).flatMap fun v => v.cells.toList) = cells at *
  have hb : Below w.heap.size w (w.alloc (.cells cells.toArray E)) := below_alloc _ _
  have hsize : (w.alloc (.cells cells.toArray E)).heap.size = w.heap.size + 1 := Array.size_push _
  have ho : ∀ b, ob (.slice (some ⟨w.heap.size, 0, none⟩) n' n') b = true → w.heap.size ≤ b ∧ b < (w.alloc (.cells cells.toArray E)).heap.size := fun b hb => by
    have := ob_iff.1 hb; cases this; rw [hsize]; exact ⟨Nat.le_refl _, Nat.lt_succ_self _⟩
  have hle := vw_push (F0 := F0) (os := Its js) hb fun b hb => (ho b hb).1
  have hcl := RepL.len hrl
  refine K _ _ _ (h.push (it := Item.sl E (.slice (some ⟨w.heap.size, 0, none⟩) n' n') ds) hb ((at_push h.at_ hb ho).put (by simpa [Nat.blt_eq] using hd) rfl) (fun b hb => (ho b hb).1) ?_ hle) (by rw [its_push]; exact hle)
  refine ⟨cells, ⟨by rw [hcl], .inr ⟨w.heap.size, n', cells.toArray, by rw [hlen], Nat.zero_le _, ?_, by rw [hlen]; exact Nat.le_refl _, ?_, ?_, ?_⟩⟩, hrl.mono hle⟩
  · exact Array.getElem?_push_size
  · unfold maxLen; have : n' ≤ n' * Enc.size α := Nat.le_mul_of_pos_right _ hps; omega
  · simp [hcl, hlen]
  · rw [List.take_of_length_le (by rw [hcl]; exact Nat.le_refl _)]
end
/-! ### short words for what walks say often -/
section
variable {P : Program} {Γ : List (Nat × Pr)} {ops : Array Oper} {d : Nat} {t : TypeId} {ps : String} {af : Array Edge} {r : List Oper} {K : List (Nat × Pr) → Prop} {φ : Pr}
theorem cg {op : Op} (h : StepP P op t Γ φ) (k : SeqK P ops r ((d, φ) :: Γ) K) (hs : ∀ cs b, op ≠ .select cs b := by intros; nofun) : SeqK P ops (⟨some d, op, t, ps, af, none⟩ :: r) Γ K := sc (sg h hs) k
theorem mv {x : Nat} (h : lk Γ x = some φ) (k : SeqK P ops r ((d, φ) :: Γ) K) : SeqK P ops (⟨some d, .move (.tmp x), t, ps, af, none⟩ :: r) Γ K := cg (sp_move (od h)) k
theorem et {K : Act → World → Prop} {Q : Exit → Act → World → Prop} {a : Act} {w : World} (h : K a w) : Exit.then K Q .normal a w := h
theorem ws {Q : Exit → Act → World → Prop} {a : Act} {w : World} {x y : Code} (h : x.wp P (Exit.then (y.wp P Q) Q) a w) : (Code.seq x y).wp P Q a w := wp_seq h
end
end Go.Proofs.YtnnhmgcigoiceaaGreatDoor.Wh
