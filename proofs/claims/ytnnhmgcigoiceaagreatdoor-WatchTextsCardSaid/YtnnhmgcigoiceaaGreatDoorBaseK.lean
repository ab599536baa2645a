/-
  What is proved: maps of the call's own with numbers as keys and truth values: made, looked up, set.
-/
import Derived.Test.YtnnhmgcigoiceaaGreatDoorBaseJ
import Derived.MapKept
namespace Go.Proofs.YtnnhmgcigoiceaaGreatDoor.Wh
open Go Go.RowKit

def EsIs (es : List MapEntry) (m : List (Int × Bool)) : Prop := es.map (fun e => (e.key, e.val)) = m.map fun x => (Value.int .i64 x.1, Value.bool x.2)
structure OwnM (b : Nat) (m : List (Int × Bool)) (w : World) : Prop where
  out : ∃ es clock, w.heap[b]? = some (.map es clock) ∧ EsIs es.toList m
def Item.mp (b : Nat) (m : List (Int × Bool)) : Item := ⟨bx b, fun _ w => OwnM b m w, fun ⟨es, cl, h1, h2⟩ _ _ hb => ⟨es, cl, (hb b (bx_iff.2 rfl)).trans h1, h2⟩⟩
structure MpP (P : Program) (T : TypeId) : Prop where
  out : ∃ KT ET i, P.underlying T = some (.map KT ET) ∧ P.underlying KT = some (.int .i64) ∧ P.info? ET = some i ∧ i.zero = some (.bool false)
theorem MpP.mk' {P : Program} {T KT ET : TypeId} (h1 : P.underlying T = some (.map KT ET)) (h2 : P.underlying KT = some (.int .i64)) (h3 : (P.info? ET).map (·.zero) = some (some (.bool false))) : MpP P T := by
  cases hi : P.info? ET with
  | none => rw [hi] at h3; cases h3
  | some i =>
    rw [hi] at h3
    simp only [Option.map_some, Option.some.injEq] at h3
    exact ⟨KT, ET, i, h1, h2, hi, h3⟩
theorem find_is {i : Int} : ∀ {es : List MapEntry} {m : List (Int × Bool)} (n : Nat), EsIs es m →
    (Instr.findNow (.int .i64) (.int .i64 i) es n = some none ∧ mget m i = false ∧ ∀ v, mset m i v = m ++ [(i, v)]) ∨
    ∃ j v, Instr.findNow (.int .i64) (.int .i64 i) es n = some (some (n + j, .bool v)) ∧ mget m i = v ∧ (es[j]?).map (·.key) = some (.int .i64 i) ∧
      ∀ u (f : MapEntry → MapEntry), (∀ e, es[j]? = some e → (f e).key = e.key ∧ (f e).val = .bool u) → EsIs (es.modify j f) (mset m i u)
  | [], m, n, h => by
    have : m = [] := by
      cases m with
      | nil => rfl
      | cons x r => cases h
    subst this
    exact .inl ⟨rfl, rfl, fun v => rfl⟩
  | e :: es, m, n, h => by
    cases m with
    | nil => cases h
    | cons x r =>
      obtain ⟨k, u⟩ := x
      unfold EsIs at h
      simp only [List.map_cons, List.cons.injEq, Prod.mk.injEq] at h
      obtain ⟨⟨hk, hv⟩, hr⟩ := h
      have hs : Instr.sameNow (.int .i64) (.int .i64 i) e.key = some (i == k) := by rw [hk]; simp [Instr.sameNow]
      by_cases q : i = k
      · subst q
        refine .inr ⟨0, u, ?_, by simp [mget], by simp [hk], fun u' f hf => ?_⟩
        · unfold Instr.findNow; rw [hs]; simp [hv]
        · obtain ⟨f1, f2⟩ := hf e rfl
          unfold EsIs mset
          rw [if_pos rfl]
          simp only [List.modify_zero_cons, List.map_cons, f1, f2, hk]
          rw [hr]
      · have hb : (i == k) = false := by simpa using q
        have hstep : Instr.findNow (.int .i64) (.int .i64 i) (e :: es) n = Instr.findNow (.int .i64) (.int .i64 i) es (n + 1) := by
          conv => lhs; unfold Instr.findNow
          rw [hs, hb]
        rcases find_is (n + 1) hr with ⟨h1, h2, h3⟩ | ⟨j, v, h1, h2, h3, h4⟩
        · refine .inl ⟨by rw [hstep, h1], by simp only [mget]; rw [if_neg q, h2], fun v => ?_⟩
          unfold mset
          rw [if_neg q, h3 v]; rfl
        · refine .inr ⟨j + 1, v, by rw [hstep, h1]; congr 3; omega, by simp only [mget]; rw [if_neg q, h2], by simpa using h3, fun u' f hf => ?_⟩
          have := h4 u' f (fun e' he' => hf e' (by simpa using he'))
          unfold EsIs at this ⊢
          unfold mset
          rw [if_neg q]
          simp only [List.modify_succ_cons, List.map_cons, hk, hv]
          rw [this]
section
variable {P : Program} {Γ : List (Nat × Pr)} {n : Nat} {F0 : Nat → Bool} {js : List Item} {w0 w : World} {a : Act} {ops : Array Oper} {Q : Exit → Act → World → Prop}
variable {d : Nat} {t : TypeId} {ps : String} {af : Array Edge} {r : List Oper} {Δ : List (Nat × Pr)}
theorem s_makeMap {T : TypeId} (h : St n F0 js Γ w0 a w) (hd : Nat.blt d n = true)
    (K : ∀ a' w' b, St n F0 (js ++ [Item.mp b []]) ((d, Pr.is (.map (some b))) :: Γ) w0 a' w' → Mem.le (vw (pf F0 (Its js)) w) (vw (pf F0 (Its (js ++ [Item.mp b []]))) w') → wpList P ops Q r a' w') :
    wpList P ops Q (⟨some d, .makeMap T none, t, ps, af, none⟩ :: r) a w := by
  have hrun : (execOp a.eval ⟨some d, .makeMap T none, t, ps, af, none⟩).run P w = .ok (.value (.map (some w.heap.size))) (w.alloc (.map #[] 0)) := by
    simp [execOp, Instr.makeMap]
  unfold wpList
  simp only [Region.wanted, if_true]
  refine .inl (wp_of_ex ?_)
  unfold Ex
  rw [hrun]
  have hbw := below_alloc w (.map #[] 0)
  have ho : ∀ b, bx w.heap.size b = true → w.heap.size ≤ b ∧ b < (w.alloc (.map #[] 0)).heap.size := fun b hb => by rw [bx_iff] at hb; subst hb; simp
  have hle := vw_push (F0 := F0) (os := Its js) hbw fun b hb => (ho b hb).1
  exact K _ _ w.heap.size (h.push (it := Item.mp w.heap.size []) hbw ((at_push h.at_ hbw ho).put (by simpa [Nat.blt_eq] using hd) rfl) (fun b hb => (ho b hb).1) ⟨#[], 0, heap_alloc_new w _, rfl⟩ hle) (by rw [its_push]; exact hle)
theorem s_lookup {T b q : Nat} {x k : Operand} {m : List (Int × Bool)} {i : Int} (hT : MpP P T) (h : St n F0 js Γ w0 a w) (hq : js[q]? = some (Item.mp b m)) (hx : Od Γ x (Pr.is (.map (some b)))) (hk : Od Γ k (isV i)) (hd : Nat.blt d n = true)
    (K : ∀ a' w', St n F0 js ((d, isV (mget m i)) :: Γ) w0 a' w' → Mem.le (vw (pf F0 (Its js)) w) (vw (pf F0 (Its js)) w') → wpList P ops Q r a' w') :
    wpList P ops Q (⟨some d, .lookup T x k false, t, ps, af, none⟩ :: r) a w := by
  have hm : ∀ xs, Met Γ xs (v2 (pf F0 (Its js)) w) a := h.at_.met
  have hxv : a.eval x = .map (some b) := hx.get (hm [x]) (by simp)
  have hkv : a.eval k = .int .i64 i := get_int hk (hm [k]) (by simp)
  obtain ⟨es, cl, hb, hes⟩ := OwnM.out (h.it hq)
  obtain ⟨KT, ET, inf, h1, h2, h3, h4⟩ := hT.out
  have hck : ∀ e, (Instr.checkKey e 10000 KT (.int .i64 i)).run P w = .ok () w := fun e => MapKept.run_checkKey (n := 9999) h2 (k := .int .i64 i) rfl e
  have hrun : (execOp a.eval ⟨some d, .lookup T x k false, t, ps, af, none⟩).run P w = .ok (.value (.bool (mget m i))) w := by
    rcases find_is (i := i) 0 hes with ⟨e1, e2, _⟩ | ⟨j, v, e1, e2, _, _⟩
    · simp [execOp, hxv, hkv, Instr.lookup, run_underlying h1, MapKept.run_getObj_map hb, hck, MapKept.run_findKey h2 e1, zeroValue, typeInfo, h3, h4, e2]
    · simp [execOp, hxv, hkv, Instr.lookup, run_underlying h1, MapKept.run_getObj_map hb, hck, MapKept.run_findKey h2 e1, e2]
  unfold wpList
  simp only [Region.wanted, if_true]
  refine .inl (wp_of_ex ?_)
  unfold Ex
  rw [hrun]
  exact K _ w ⟨h.at_.put (by simpa [Nat.blt_eq] using hd) rfl, h.apart, h.own, h.low, h.below, h.base⟩ (Mem.le_refl _)
theorem s_mapUpdate {T b q : Nat} {x k y : Operand} {m : List (Int × Bool)} {i : Int} {v : Bool} (hT : MpP P T) (h : St n F0 js Γ w0 a w) (hq : js[q]? = some (Item.mp b m)) (hl : AllOd Γ Δ) (hC : AllC Δ) (hx : Od Γ x (Pr.is (.map (some b)))) (hk : Od Γ k (isV i)) (hy : Od Γ y (isV v))
    (K : ∀ w', St n F0 (js.set q (Item.mp b (mset m i v))) Δ w0 a w' → Mem.le (vw (pf F0 (Its js)) w) (vw (pf F0 (Its (js.set q (Item.mp b (mset m i v))))) w') → wpList P ops Q r a w') :
    wpList P ops Q (⟨none, .mapUpdate T x k y, t, ps, af, none⟩ :: r) a w := by
  have hm : ∀ xs, Met Γ xs (v2 (pf F0 (Its js)) w) a := h.at_.met
  have hxv : a.eval x = .map (some b) := hx.get (hm [x]) (by simp)
  have hkv : a.eval k = .int .i64 i := get_int hk (hm [k]) (by simp)
  have hyv : a.eval y = .bool v := get_bool hy (hm [y]) (by simp)
  have h' := h.weak hl
  obtain ⟨es, cl, hb, hes⟩ := OwnM.out (h.it hq)
  obtain ⟨KT, ET, inf, h1, h2, h3, h4⟩ := hT.out
  have hck : ∀ e, (Instr.checkKey e 10000 KT (.int .i64 i)).run P w = .ok () w := fun e => MapKept.run_checkKey (n := 9999) h2 (k := .int .i64 i) rfl e
  obtain ⟨o, hrun, hO⟩ : ∃ o, (execOp a.eval ⟨none, .mapUpdate T x k y, t, ps, af, none⟩).run P w = .ok .skip { w with heap := w.heap.setIfInBounds b o } ∧ ∃ es' cl', o = .map es' cl' ∧ EsIs es'.toList (mset m i v) := by
    rcases find_is (i := i) 0 hes with ⟨e1, e2, e3⟩ | ⟨j, u, e1, e2, e3, e4⟩
    · refine ⟨.map (es.push { key := .int .i64 i, val := .bool v, born := cl }) (cl + 1), ?_, _, _, rfl, ?_⟩
      · simp [execOp, hxv, hkv, hyv, Instr.mapUpdate, run_underlying h1, MapKept.run_getObj_map hb, hck, MapKept.run_findKey h2 e1, MapKept.run_setObj_map _ hb]
      · rw [e3 v]
        unfold EsIs at hes ⊢
        simp [hes]
    · have hkey : ((es[j]?).map (·.key)).getD (.int .i64 i) = .int .i64 i := by
        rw [← Array.getElem?_toList, e3]; rfl
      refine ⟨.map (es.modify j fun e => { e with key := .int .i64 i, val := .bool v }) cl, ?_, _, _, rfl, ?_⟩
      · simp only [Nat.zero_add] at e1
        simp [execOp, hxv, hkv, hyv, Instr.mapUpdate, run_underlying h1, MapKept.run_getObj_map hb, hck, MapKept.run_findKey h2 e1, MapKept.run_setObj_map _ hb, hkey, MapKept.run_keyThatStays (d := .int .i64) (k := .int .i64 i) rfl]
      · have := e4 v (fun e => { e with key := .int .i64 i, val := .bool v }) (fun e he => by
          rw [he] at e3
          simp only [Option.map_some, Option.some.injEq] at e3
          exact ⟨e3.symm, rfl⟩)
        rw [Array.toList_modify]
        exact this
  unfold wpList
  simp only [Region.wanted, if_true]
  refine .inl (wp_of_ex ?_)
  unfold Ex
  rw [hrun]
  obtain ⟨es', cl', rfl, hes'⟩ := hO
  have hset := set_self (its_at hq)
  have hhs := MapKept.heap_set (w := w) (o' := .map es' cl') hb
  generalize hw' : ({ w with heap := w.heap.setIfInBounds b (.map es' cl') } : World) = w'
  have hheap : w'.heap = w.heap.setIfInBounds b (.map es' cl') := by rw [← hw']
  have hblk : ∀ q, q < w.heap.size → bx b q = false → w'.heap[q]? = w.heap[q]? := fun q hq' hbq => by
    rw [hheap]
    exact hhs.2 q (fun e => by rw [bx_iff.2 e] at hbq; cases hbq)
  have hsize : w'.heap.size = w.heap.size := by rw [hheap]; simp
  have hlow := h.low q _ b hq (bx_iff.2 rfl)
  have hB : Below w0.heap.size w0 w' := h.below.trans ⟨by rw [← hw'], by rw [← hw'], by rw [← hw'], by rw [hsize]; exact Nat.le_refl _, fun p hp => by
    rw [hheap]; exact hhs.2 p (fun e => by omega), by rw [← hw']; exact Nat.le_refl _⟩
  have hle := vw_turn (F0 := F0) (its_at hq) hblk (o' := bx b) (fun q hq => .inl hq)
  refine K _ (h'.change hq (it' := Item.mp b (mset m i v)) (h'.at_.turn hC hle fun p hp => ?_) hB (by rw [hsize]; exact Nat.le_refl _) (fun p hp => .inl hp) ⟨es', cl', by rw [hheap]; exact hhs.1, hes'⟩ hblk hle) ?_
  · rw [hsize]
    have hp' : pf F0 ((Its js).set q (bx b)) p = true := hp
    have e : (Its js).set q (bx b) = Its js := hset
    rw [e] at hp'
    exact h.at_.own p hp'
  · rw [its_set]; exact hle
end
end Go.Proofs.YtnnhmgcigoiceaaGreatDoor.Wh
