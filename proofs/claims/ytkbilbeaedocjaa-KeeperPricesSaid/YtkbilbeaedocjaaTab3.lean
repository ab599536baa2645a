/-
  What is proved: rows put into tables; elements of own slices set anew.
-/
import Derived.Test.YtkbilbeaedocjaaTab2
namespace Go.Proofs.Ytkbilbeaedocjaa.Wh
open Go Go.RowKit

/-! ### elements of an own slice -/
def isOS {α : Type} [Enc α] (v : Value) (xs : List α) : Pr := ⟨fun c u => u = v ∧ RowM c v xs, fun hc h => ⟨h.1, h.2.mono hc⟩⟩
/-- the place of element j of an own slice -/
def isEP (α : Type) [Enc α] (v : Value) (j : Nat) : Pr := ⟨fun _ u => ∃ b n cap, v = .slice (some ⟨b, 0, none⟩) n cap ∧ u = .pointer (some ⟨b, j * Enc.size α, none⟩), fun _ h => h⟩
def isEA {α : Type} [Enc α] (v : Value) (j : Nat) (y : α) : Pr :=
  ⟨fun c u => ∃ b n cap vs, v = .slice (some ⟨b, 0, none⟩) n cap ∧ u = .pointer (some ⟨b, j * Enc.size α, none⟩) ∧ Enc.rep c.c vs y ∧ ∀ q x, vs[q]? = some x → c.m ⟨b, j * Enc.size α + q, none⟩ = some x,
   fun hc h => by obtain ⟨b, n, cap, vs, h1, h2, h3, h4⟩ := h; exact ⟨b, n, cap, vs, h1, h2, Enc.mono hc.1 h3, fun q x e => hc.2 _ _ (h4 q x e)⟩⟩
theorem odEP {α : Type} [Enc α] {Γ : List (Nat × Pr)} {t j : Nat} {v : Value} {y : α} (h : lk Γ t = some (isEA v j y)) : Od Γ (.tmp t) (isEP α v j) :=
  ⟨_, h, fun _ _ k => by obtain ⟨b, n, cap, vs, h1, h2, _⟩ := k; exact ⟨b, n, cap, h1, h2⟩⟩
theorem odOS {α : Type} [Enc α] {Γ : List (Nat × Pr)} {t : Nat} {v : Value} {xs : List α} (h : lk Γ t = some (isOS v xs)) : Od Γ (.tmp t) (Pr.is v) := ⟨_, h, fun _ _ k => k.1⟩
section
variable {P : Program} {Γ : List (Nat × Pr)} {ty : TypeId}
theorem at_os {α : Type} [Enc α] {E B n t : Nat} {F : Nat → Bool} {a : Act} {w : World} {v : Value} {xs : List α} (hO : Own E B (vw F w) w v xs) (h : At n F Γ a w) (e : lk Γ t = some (Pr.is v)) : At n F ((t, isOS v xs) :: Γ) a w := by
  refine ⟨h.size, h.defers, h.own, fun s φ hs => ?_⟩
  unfold lk at hs
  cases hb : Nat.beq t s with
  | true =>
    rw [hb] at hs
    simp only [cond_true, Option.some.injEq] at hs
    have := Nat.eq_of_beq_eq_true hb
    subst hs; subst this
    obtain ⟨cells, h1, h2⟩ := hO.row
    exact ⟨h.sat t _ e, own_rowM h1 h2⟩
  | false => rw [hb] at hs; exact h.sat s φ hs
theorem at_unos {α : Type} [Enc α] {n t : Nat} {F : Nat → Bool} {a : Act} {w : World} {v : Value} {xs : List α} (h : At n F Γ a w) (e : lk Γ t = some (isOS v xs)) : At n F ((t, Pr.is v) :: Γ) a w := by
  refine ⟨h.size, h.defers, h.own, fun s φ hs => ?_⟩
  unfold lk at hs
  cases hb : Nat.beq t s with
  | true =>
    rw [hb] at hs
    simp only [cond_true, Option.some.injEq] at hs
    have := Nat.eq_of_beq_eq_true hb
    subst hs; subst this
    exact (h.sat t _ e).1
  | false => rw [hb] at hs; exact h.sat s φ hs
theorem sp_lenOS {α : Type} [Enc α] {x : Operand} {T E : TypeId} {v : Value} {xs : List α} (hT : P.underlying T = some (.slice E)) (hx : Od Γ x (isOS v xs)) : StepP P (.call { callee := .builtin .len, args := #[x], argTypes := #[T] }) ty Γ (isV (xs.length : Int)) :=
  step_pure fun c w a hc hm => by
    obtain ⟨h1, h2⟩ := hx.get hm (by simp [Op.operands, Call.operands])
    obtain ⟨a', cap, hv⟩ : ∃ a' cap, v = .slice a' xs.length cap := by
      rcases h2 with ⟨hu, rfl⟩ | ⟨b, cap', _, hu, _⟩
      · exact ⟨none, 0, hu⟩
      · exact ⟨_, cap', hu⟩
    refine ⟨.int .i64 xs.length, ?_, rfl⟩
    simp [execOp, plain, resolve, invoke, builtin, Builtin.len_, h1, hv, run_underlying hT, goInt]
theorem sp_indexAddrOS {α : Type} [Enc α] {x k : Operand} {T E : TypeId} {v : Value} {xs : List α} {j : Int} {y : α} (hT : SlP P T E α) (hx : Od Γ x (isOS v xs)) (hk : Od Γ k (isV j)) (h : idx xs j = some y) : StepP P (.indexAddr T x k) ty Γ (isEA v j.toNat y) :=
  step_pure fun c w a hc hm => by
    have hkv := get_int hk hm (by simp [Op.operands])
    obtain ⟨h1, h3⟩ := hx.get hm (by simp [Op.operands])
    obtain ⟨h0, hlt, he⟩ := idx_some h
    rcases h3 with ⟨_, rfl⟩ | ⟨b, cap', cells, hu, hl, hmm⟩
    · simp at hlt
    · obtain ⟨vs, hr, hv⟩ := hl.get j.toNat hlt
      refine ⟨.pointer (some ⟨b, j.toNat * Enc.size α, none⟩), ?_, b, _, cap', vs, hu, rfl, by rw [← he]; exact hr, fun q z e => hmm _ _ (hv q z e)⟩
      have hi : 0 ≤ j ∧ j < (xs.length : Int) := ⟨h0, by omega⟩
      simp [execOp, plain, hkv, h1, hu, Instr.indexAt, asIntOf, run_underlying hT.desc, hi, hT.elem.sizeOf w, Addr.add_lit]
theorem sp_loadEA {α : Type} [Enc α] {x : Operand} {E : TypeId} {v : Value} {j : Nat} {y : α} (hT : TyP P E α) (hx : Od Γ x (isEA v j y)) : StepP P (.load E x) ty Γ (isV y) :=
  step_pure fun c w a hc hm => by
    obtain ⟨b, n, cap, vs, h1, h3, h4, h5⟩ := hx.get hm (by simp [Op.operands])
    obtain ⟨u, hrun, hval⟩ := run_load_cells (P := P) hT h4 (fun q z e => hc.2 _ _ (h5 q z e))
    exact ⟨u, by simp [execOp, plain, h3, Instr.loadAt, Instr.sureAddr, hrun], hval⟩
theorem set1_some {α : Type} {r r' : List α} {j : Int} {z : α} (h : set1 r j z = some r') : 0 ≤ j ∧ j.toNat < r.length ∧ r' = r.set j.toNat z := by
  unfold set1 at h
  split at h
  · cases h
  · split at h
    · rename_i h0 h1; cases h; exact ⟨by omega, h1, rfl⟩
    · cases h
/-- The row of an own slice, one element set. -/
theorem own_set_row {α : Type} [Enc α] {E B : Nat} {c c' : Mem} {w : World} {b n' cap' : Nat} {xs : List α} {vs : List Value} {z : α} {j : Nat} (hO : Own E B c w (.slice (some ⟨b, 0, none⟩) n' cap') xs) (hc : Mem.le c c') (hz : Enc.rep c' vs z) (hj : j < xs.length)
    {new : List Value} (hnew : ∀ cur, w.heap[b]? = some (.cells cur E (0, 0)) → new = cur.toList.take (j * Enc.size α) ++ vs ++ cur.toList.drop (j * Enc.size α + vs.length)) : Own E B c' (w.setRow b new.toArray) (.slice (some ⟨b, 0, none⟩) n' cap') (xs.set j z) := by
  obtain ⟨cells, hr, hl⟩ := hO.row
  rcases hr.2 with ⟨hn, _⟩ | ⟨b', cap, cur, hub, hBb, hheap, hlc, hcm, hcs, htake⟩
  · cases hn
  cases hub
  have hnew' := hnew cur hheap
  have hlen : vs.length = Enc.size α := Enc.len hz
  have hjm : (j + 1) * Enc.size α ≤ xs.length * Enc.size α := Nat.mul_le_mul_right _ (by omega)
  rw [Nat.add_mul] at hjm
  have hlc' : xs.length * Enc.size α ≤ cap' * Enc.size α := Nat.mul_le_mul_right _ hlc
  have hcl : cur.toList.length = cap' * Enc.size α := by simpa using hcs
  refine ⟨cells.take (j * Enc.size α) ++ vs ++ cells.drop (j * Enc.size α + vs.length), ⟨?_, .inr ⟨b, cap', new.toArray, by rw [List.length_set], hBb, setRow_heap w b cur _ E _ hheap, by rw [List.length_set]; exact hlc, hcm, ?_, ?_⟩⟩, RepL.set j (hl.mono hc) hz hj⟩
  · exact RepL.len (RepL.set j (hl.mono hc) hz hj)
  · rw [hnew']
    simp only [List.size_toArray, List.length_append, List.length_take, List.length_drop, hcl]
    omega
  · rw [hnew', List.length_set, ← htake]
    apply List.ext_getElem?
    intro q
    simp only [List.getElem?_take, List.getElem?_append, List.length_take, List.length_append, List.getElem?_drop, hcl]
    have e1 : min (j * Enc.size α) (cap' * Enc.size α) = j * Enc.size α := by omega
    have e2 : min (j * Enc.size α) (min (xs.length * Enc.size α) (cap' * Enc.size α)) = j * Enc.size α := by omega
    rw [e1, e2]
    by_cases q1 : q < xs.length * Enc.size α
    · rw [if_pos q1]
      by_cases q2 : q < j * Enc.size α
      · simp only [show q < j * Enc.size α + vs.length by omega, q2, q1, if_true]
      · by_cases q3 : q < j * Enc.size α + vs.length
        · simp only [q3, q2, if_true, if_false]
        · simp only [q3, if_false]
          have e3 : j * Enc.size α + vs.length + (q - (j * Enc.size α + vs.length)) = q := by omega
          rw [e3]
          simp only [q1, if_true]
    · rw [if_neg q1]
      symm
      simp only [show ¬ q < j * Enc.size α + vs.length by omega, if_false]
      rw [if_neg (by omega)]
/-- 'x[j] = z' on an own slice. -/
theorem l_storeEA {ops : Array Oper} {n k p : Nat} {j : Int} {E : TypeId} {y : Operand} {α : Type} [Enc α] {z : α} {xs xs' : List α} {v : Value} {t : TypeId} {ps : String} {af : Array Edge} {r : List Oper} {F0 : Nat → Bool} {os : List (Nat → Bool)} {a : Act} {w w0 : World} {Q : Exit → Act → World → Prop}
    (hT : TyP P E α) (hk : os[k]? = some (ob v)) (hA : At n (pf F0 os) Γ a w) (hB : Below w0.heap.size w0 w) (hO : Own E w0.heap.size (vw (pf F0 os) w) w v xs) (hp : Od Γ (.tmp p) (isEP α v j.toNat)) (hy : Od Γ y (isV z)) (hset : set1 xs j z = some xs')
    {Δ : List (Nat × Pr)} (hl : AllOd Γ Δ) (hC : AllC Δ)
    (K : ∀ w', Below w0.heap.size w0 w' → At n (pf F0 os) Δ a w' → Own E w0.heap.size (vw (pf F0 os) w') w' v xs' → (∀ q, q < w.heap.size → ob v q = false → w'.heap[q]? = w.heap[q]?) → w.heap.size ≤ w'.heap.size → Mem.le (vw (pf F0 os) w) (vw (pf F0 os) w') → wpList P ops Q r a w') :
    wpList P ops Q (⟨none, .store E (.tmp p) y, t, ps, af, none⟩ :: r) a w := by
  have hm : ∀ xs, Met Γ xs (v2 (pf F0 os) w) a := hA.met
  have hyv : val (vw (pf F0 os) w) (a.eval y) z := hy.get (hm [y]) (by simp)
  obtain ⟨b, n', cap', rfl, hpv⟩ := hp.get (hm [.tmp p]) (by simp)
  have hpv : a.eval (.tmp p) = .pointer (some ⟨b, j.toNat * Enc.size α, none⟩) := hpv
  obtain ⟨hj0, hjlt, rfl⟩ := set1_some hset
  obtain ⟨cells, h1, h2⟩ := hO.row
  rcases h1.2 with ⟨hn, _⟩ | ⟨b', cap, cur, hub, hBb, hheap, hlc, hcm, hcs, htake⟩
  · cases hn
  cases hub
  have hcells := val_cells hyv
  have hlen := Enc.len hcells
  have hone := Enc.cell hcells
  obtain ⟨inf, hinf, hsz⟩ := hT.info
  have hpos : (j.toNat + 1) * Enc.size α ≤ cap' * Enc.size α := Nat.mul_le_mul_right _ (by omega)
  have hfit : j.toNat * Enc.size α + 0 + (a.eval y).cells.toList.length ≤ cur.size := by rw [hlen, hcs]; rw [Nat.add_mul] at hpos; omega
  have hst := run_storeCells_at P b (j.toNat * Enc.size α) E (a.eval y).cells.toList 0 cur w hheap hfit hone
  have hcs2 : (a.eval y).cells.size = inf.size := by rw [hsz, ← hlen]; simp
  have hr : (execOp a.eval ⟨none, .store E (.tmp p) y, t, ps, af, none⟩).run P w = .ok .skip (w.setRow b (cur.toList.take (j.toNat * Enc.size α) ++ (a.eval y).cells.toList ++ cur.toList.drop (j.toNat * Enc.size α + (a.eval y).cells.toList.length)).toArray) := by
    simp only [Nat.add_zero] at hst
    simp only [execOp, hpv, Instr.storeAt, Instr.sureAddr, storeVar, Go.sizeOf, typeInfo, Sem.run_bind, run_program, Result.andThen_ok, hinf, Sem.run_pure]
    simp [hcs2, hst]
  unfold wpList
  simp only [Region.wanted, if_true]
  refine .inl (wp_of_ex ?_)
  unfold Ex
  rw [hr]
  generalize hnew : cur.toList.take (j.toNat * Enc.size α) ++ (a.eval y).cells.toList ++ cur.toList.drop (j.toNat * Enc.size α + (a.eval y).cells.toList.length) = new
  have hblk : ∀ q, q ≠ b → (w.setRow b new.toArray).heap[q]? = w.heap[q]? := fun q hq => setRow_other _ _ _ _ hq
  have hblk' : ∀ q, q < w.heap.size → ob (.slice (some ⟨b, 0, none⟩) xs.length cap') q = false → (w.setRow b new.toArray).heap[q]? = w.heap[q]? := fun q _ hq => hblk q (fun e => by subst e; simp [ob, Value.ownBlock] at hq)
  have hle : Mem.le (vw (pf F0 os) w) (vw (pf F0 os) (w.setRow b new.toArray)) := by
    have := vw_turn (F0 := F0) hk hblk' (o' := ob (.slice (some ⟨b, 0, none⟩) xs.length cap')) (fun q hq => .inl hq)
    rwa [set_self hk] at this
  have hsize : (w.setRow b new.toArray).heap.size = w.heap.size := by simp
  refine K _ (hB.trans ⟨rfl, rfl, rfl, by rw [hsize]; exact Nat.le_refl _, fun q hq => hblk q (fun e => by omega), Nat.le_refl _⟩) ((hA.weak hl).turn hC hle fun q hq => by rw [hsize]; exact hA.own q hq) ?_ hblk' (by rw [hsize]; exact Nat.le_refl _) hle
  refine own_set_row hO hle (Enc.mono hle hcells) hjlt (fun cur' hc' => ?_)
  rw [hheap] at hc'
  cases hc'
  exact hnew.symm

/-! ### a row put into a table -/
theorem merge_pf {F0 : Nat → Bool} {os : List (Nat → Bool)} {k k2 b : Nat} {o u o' : Nat → Bool} (hk : os[k]? = some o) (hk2 : os[k2]? = some u) (ho : ∀ b, o' b = true → o b = true ∨ u b = true) (h : pf F0 ((os.set k o').eraseIdx k2) b = true) : pf F0 os b = true := by
  rcases pf_iff.1 (pf_erase h) with h | ⟨i, x, hi, hx⟩
  · exact pf_iff.2 (.inl h)
  · rw [List.getElem?_set] at hi
    split at hi
    · split at hi
      · cases hi
        rcases ho b hx with h1 | h1
        · exact pf_iff.2 (.inr ⟨k, o, hk, h1⟩)
        · exact pf_iff.2 (.inr ⟨k2, u, hk2, h1⟩)
      · cases hi
    · exact pf_iff.2 (.inr ⟨i, x, hi, hx⟩)
theorem merge_apart {os : List (Nat → Bool)} {k k2 : Nat} {o u o' : Nat → Bool} (hD : Apart os) (hk : os[k]? = some o) (hk2 : os[k2]? = some u) (hne : Nat.beq k k2 = false) (ho : ∀ b, o' b = true → o b = true ∨ u b = true) : Apart ((os.set k o').eraseIdx k2) := by
  have hne' : k ≠ k2 := fun e => by subst e; simp at hne
  -- each kept owner, by its old place
  have hold : ∀ (i : Nat) (x : Nat → Bool), ((os.set k o').eraseIdx k2)[i]? = some x → ∃ i', i' ≠ k2 ∧ i' = (if i < k2 then i else i + 1) ∧ ((i' = k ∧ x = o') ∨ (i' ≠ k ∧ os[i']? = some x)) := by
    intro i x hx
    rw [List.getElem?_eraseIdx] at hx
    have fin : ∀ i', (os.set k o')[i']? = some x → (i' = k ∧ x = o') ∨ (i' ≠ k ∧ os[i']? = some x) := by
      intro i' hx'
      rw [List.getElem?_set] at hx'
      split at hx'
      · rename_i e
        split at hx'
        · cases hx'; exact .inl ⟨e.symm, rfl⟩
        · cases hx'
      · rename_i e; exact .inr ⟨fun e' => e e'.symm, hx'⟩
    by_cases hik : i < k2
    · rw [if_pos hik] at hx
      exact ⟨i, by omega, by rw [if_pos hik], fin i hx⟩
    · rw [if_neg hik] at hx
      exact ⟨i + 1, by omega, by rw [if_neg hik], fin (i + 1) hx⟩
  intro i j x y hi hj hij b hb
  obtain ⟨i', hi2, hie, hi3⟩ := hold i x hi
  obtain ⟨j', hj2, hje, hj3⟩ := hold j y hj
  have hij' : i' ≠ j' := by rw [hie, hje]; split <;> split <;> omega
  rcases hi3 with ⟨e1, rfl⟩ | ⟨e1, hx⟩
  · rcases hj3 with ⟨e2, _⟩ | ⟨e2, hy⟩
    · omega
    · rcases ho b hb with h1 | h1
      · exact hD k j' o y hk hy (fun e => e2 e.symm) b h1
      · exact hD k2 j' u y hk2 hy (fun e => hj2 e.symm) b h1
  · rcases hj3 with ⟨e2, rfl⟩ | ⟨e2, hy⟩
    · cases hq : y b with
      | false => rfl
      | true =>
        rcases ho b hq with h1 | h1
        · have := hD i' k x o hx hk e1 b hb
          rw [h1] at this; cases this
        · have := hD i' k2 x u hx hk2 hi2 b hb
          rw [h1] at this; cases this
    · exact hD i' j' x y hx hy hij' b hb
/-- A table whose row i is elsewhere. -/
structure OwnH {α : Type} [Enc α] (RT E : TypeId) (B : Nat) (c : Mem) (w : World) (v : Value) (o : Nat → Bool) (i : Nat) (rs : List Value) (rows : List (List α)) : Prop where
  out : w.ownsRow B RT 1 v rows.length rs ∧
    (∀ (j : Nat) (u : Value) (r : List α), j ≠ i → rs[j]? = some u → rows[j]? = some r → ∃ cells, w.ownsRow B E (Enc.size α) u r.length cells ∧ RepL c cells r) ∧
    (∀ (j k : Nat) (u u' : Value) (b : Nat), j ≠ i → k ≠ i → rs[j]? = some u → rs[k]? = some u' → u.ownBlock = some b → u'.ownBlock = some b → j = k) ∧
    (∀ (j : Nat) (u : Value) (b : Nat), j ≠ i → rs[j]? = some u → u.ownBlock = some b → v.ownBlock ≠ some b) ∧
    (∀ b, v.ownBlock = some b → o b = true) ∧ (∀ (j : Nat) (u : Value) (b : Nat), j ≠ i → rs[j]? = some u → u.ownBlock = some b → o b = true)
  lt : ∀ b, o b = true → B ≤ b ∧ b < w.heap.size
theorem ownH_kept {α : Type} [Enc α] {RT E : TypeId} {B i : Nat} {c c' : Mem} {w w' : World} {v : Value} {o : Nat → Bool} {rs : List Value} {rows : List (List α)} (h : OwnH RT E B c w v o i rs rows) (hc : Mem.le c c') (hs : w.heap.size ≤ w'.heap.size)
    (hb : ∀ k, o k = true → w'.heap[k]? = w.heap[k]?) : OwnH RT E B c' w' v o i rs rows := by
  obtain ⟨h1, h2, h3, h4, h5, h6⟩ := h.out
  refine ⟨⟨ownsRow_kept h1 (fun k hk => hb k (h5 k hk)), fun j u r hj hu hr => ?_, h3, h4, h5, h6⟩, fun b hb' => ⟨(h.lt b hb').1, Nat.lt_of_lt_of_le (h.lt b hb').2 hs⟩⟩
  obtain ⟨cells, hc1, hc2⟩ := h2 j u r hj hu hr
  exact ⟨cells, ownsRow_kept hc1 (fun k hk => hb k (h6 j u k hj hu hk)), hc2.mono hc⟩
theorem ownH_of {α : Type} [Enc α] {RT E : TypeId} {B : Nat} {c : Mem} {w : World} {v : Value} {o : Nat → Bool} {rs : List Value} {rows : List (List α)} (i : Nat) (h : OwnT RT E B c w v o rs rows) : OwnH RT E B c w v o i rs rows := by
  obtain ⟨h1, h2, h3, h4, h5, h6⟩ := h.out
  exact ⟨⟨h1, fun j u r _ => h2 j u r, fun j k u u' b _ _ => h3 j k u u' b, fun j u b _ => h4 j u b, h5, fun j u b _ => h6 j u b⟩, h.lt⟩
/-- .. taken out. -/
theorem ownH_take {α : Type} [Enc α] {RT E : TypeId} {B i : Nat} {c : Mem} {w : World} {v u : Value} {o : Nat → Bool} {rs : List Value} {rows : List (List α)} {r : List α} (h : OwnT RT E B c w v o rs rows) (hu : rs[i]? = some u) (hr : rows[i]? = some r) :
    OwnH RT E B c w v (fun b => o b && !ob u b) i rs rows ∧ Own E B c w u r := by
  obtain ⟨h1, h2, h3, h4, h5, h6⟩ := h.out
  refine ⟨⟨⟨h1, fun j u r _ => h2 j u r, fun j k u u' b _ _ => h3 j k u u' b, fun j u b _ => h4 j u b, fun b hb => ?_, fun j u' b hj hu' hb => ?_⟩, fun b hb => h.lt b (by simp at hb; exact hb.1)⟩, ⟨h2 i u r hu hr⟩⟩
  · have hn : ob u b = false := by
      cases hq : ob u b with
      | false => rfl
      | true => exact absurd hb (h4 i u b hu (ob_iff.1 hq))
    simp [h5 b hb, hn]
  · have hn : ob u b = false := by
      cases hq : ob u b with
      | false => rfl
      | true => exact absurd (h3 j i u' u b hu' hu hb (ob_iff.1 hq)) hj
    simp [h6 j u' b hu' hb, hn]
/-- 't[i] = r' for an own slice r: it is the table's then. -/
theorem l_storeTR {ops : Array Oper} {n k k2 p : Nat} {i : Int} {RT E : TypeId} {y : Operand} {α : Type} [Enc α] {z : List α} {rs : List Value} {rows rows' : List (List α)} {v u : Value} {o : Nat → Bool} {t : TypeId} {ps : String} {af : Array Edge} {r : List Oper} {F0 : Nat → Bool} {os : List (Nat → Bool)} {a : Act} {w w0 : World} {Q : Exit → Act → World → Prop}
    (hT : P.underlying RT = some (.slice E)) (hR : (P.info? RT).map (·.size) = some 1) (hk : os[k]? = some o) (hk2 : os[k2]? = some (ob u)) (hne : Nat.beq k k2 = false) (hA : At n (pf F0 os) Γ a w) (hB : Below w0.heap.size w0 w) (hD : Apart os)
    (hO : OwnH RT E w0.heap.size (vw (pf F0 os) w) w v o i.toNat rs rows) (hO2 : Own E w0.heap.size (vw (pf F0 os) w) w u z) (hp : Od Γ (.tmp p) (isTP v i.toNat)) (hy : Od Γ y (Pr.is u)) (hset : set1 rows i z = some rows')
    {Δ : List (Nat × Pr)} (hl : AllOd Γ Δ) (hC : AllC Δ)
    (K : ∀ w' o', (∀ b, o' b = true → o b = true ∨ ob u b = true) → Below w0.heap.size w0 w' → At n (pf F0 ((os.set k o').eraseIdx k2)) Δ a w' → Apart ((os.set k o').eraseIdx k2) → OwnT RT E w0.heap.size (vw (pf F0 ((os.set k o').eraseIdx k2)) w') w' v o' (rs.set i.toNat u) rows' → (∀ q, q < w.heap.size → o q = false → w'.heap[q]? = w.heap[q]?) → w.heap.size ≤ w'.heap.size →
      Mem.le (vw (pf F0 os) w) (vw (pf F0 ((os.set k o').eraseIdx k2)) w') → wpList P ops Q r a w') :
    wpList P ops Q (⟨none, .store RT (.tmp p) y, t, ps, af, none⟩ :: r) a w := by
  have hm : ∀ xs, Met Γ xs (v2 (pf F0 os) w) a := hA.met
  have hyv : a.eval y = u := hy.get (hm [y]) (by simp)
  obtain ⟨g, n', cap, hv, hpv⟩ := hp.get (hm [.tmp p]) (by simp)
  have hpv : a.eval (.tmp p) = .pointer (some ⟨g, i.toNat, none⟩) := hpv
  obtain ⟨hi0, hilt, rfl⟩ := set1_some hset
  obtain ⟨h1, h2, h3, h4, h5, h6⟩ := hO.out
  have hrl : rs.length = rows.length := by rw [h1.1, Nat.mul_one]
  rcases h1.2 with ⟨hn, _⟩ | ⟨g', cap', cur, hub, hBb, hheap, hlc, hcm, hcs, htake⟩
  · rw [hv] at hn; cases hn
  have hgg : g' = g := by rw [hv] at hub; cases hub; rfl
  subst hgg
  have hgo : o g' = true := h5 g' (by rw [hv]; rfl)
  have hu1 : u.oneCell' = true := by
    obtain ⟨cells, hr, _⟩ := hO2.row
    rcases hr.2 with ⟨rfl, _⟩ | ⟨_, _, _, rfl, _⟩ <;> rfl
  have huc : u.cells = #[u] := by cases u <;> first | rfl | cases hu1
  cases hin : P.info? RT with
  | none => rw [hin] at hR; cases hR
  | some inf =>
  rw [hin] at hR
  have hs1 : inf.size = 1 := by simpa using hR
  rw [Nat.mul_one] at hcs htake
  have hst := run_storeCells_at P g' i.toNat RT [u] 0 cur w hheap (by simp; omega) (by intro q hq; simp at hq; subst hq; exact hu1)
  have hr : (execOp a.eval ⟨none, .store RT (.tmp p) y, t, ps, af, none⟩).run P w = .ok .skip (w.setRow g' (cur.toList.take i.toNat ++ [u] ++ cur.toList.drop (i.toNat + 1)).toArray) := by
    simp only [Nat.add_zero, List.length_singleton] at hst
    simp only [execOp, hpv, hyv, Instr.storeAt, Instr.sureAddr, storeVar, Go.sizeOf, typeInfo, Sem.run_bind, run_program, Result.andThen_ok, hin, Sem.run_pure]
    simp only [huc, hs1]
    simp
    simp at hst
    rw [hst]
    rfl
  generalize hnew : cur.toList.take i.toNat ++ [u] ++ cur.toList.drop (i.toNat + 1) = new at hr
  unfold wpList
  simp only [Region.wanted, if_true]
  refine .inl (wp_of_ex ?_)
  unfold Ex
  rw [hr]
  have hblk : ∀ q, q ≠ g' → (w.setRow g' new.toArray).heap[q]? = w.heap[q]? := fun q hq => setRow_other _ _ _ _ hq
  have hblk' : ∀ q, q < w.heap.size → o q = false → (w.setRow g' new.toArray).heap[q]? = w.heap[q]? := fun q _ hq => hblk q (fun e => by subst e; rw [hgo] at hq; cases hq)
  have hsize : (w.setRow g' new.toArray).heap.size = w.heap.size := by simp
  have ho' : ∀ b, (fun b => o b || ob u b) b = true → o b = true ∨ ob u b = true := fun b hb => by simpa using hb
  have hle : Mem.le (vw (pf F0 os) w) (vw (pf F0 ((os.set k fun b => o b || ob u b).eraseIdx k2)) (w.setRow g' new.toArray)) := by
    intro c q e
    unfold vw at e ⊢
    split at e
    · cases e
    · rename_i hf
      rw [if_neg (fun hh => hf (merge_pf hk hk2 ho' hh)), World.cell?_of_block (hblk c.block (fun e' => hf (pf_iff.2 (.inr ⟨k, o, hk, by rw [e']; exact hgo⟩))))]
      exact e
  have hgu : ∀ b, ob u b = true → b ≠ g' := fun b hb e => by
    have := hD k2 k _ o hk2 hk (fun e => by subst e; simp at hne) b hb
    rw [e, hgo] at this; cases this
  have hnl : new.length = cap' := by
    rw [← hnew]; simp only [List.length_append, List.length_take, List.length_drop, Array.length_toList, List.length_singleton]; omega
  have hrs' : new.take rows.length = rs.set i.toNat u := by
    rw [← hnew, ← htake]
    apply List.ext_getElem?
    intro q
    simp only [List.getElem?_take, List.getElem?_append, List.length_take, List.length_append, List.getElem?_drop, Array.length_toList, hcs, List.length_singleton, List.getElem?_set]
    have e1 : min i.toNat cap' = i.toNat := by omega
    have e2 : min rows.length cap' = rows.length := by omega
    rw [e1, e2]
    have e3 : min i.toNat (min rows.length cap') = i.toNat := by omega
    try rw [e3]
    by_cases q1 : q < rows.length
    · simp only [q1, if_true]
      by_cases q2 : q < i.toNat
      · have q3 : ¬ i.toNat = q := by omega
        have q4 : q < i.toNat + 1 := by omega
        simp only [q2, q3, q4, if_true, if_false]
      · by_cases q3 : i.toNat = q
        · subst q3
          have q4 : i.toNat < min rows.length cur.size := by omega
          simp [hilt]
        · have q4 : ¬ q < i.toNat + 1 := by omega
          have q5 : i.toNat + 1 + (q - (i.toNat + 1)) = q := by omega
          simp only [q3, q4, q5, if_false]
    · have q3 : ¬ i.toNat = q := by omega
      simp only [q1, q3, if_false]
  refine K _ (fun b => o b || ob u b) ho' (hB.trans ⟨rfl, rfl, rfl, by rw [hsize]; exact Nat.le_refl _, fun q hq => hblk q (fun e => by omega), Nat.le_refl _⟩) ((hA.weak hl).turn hC hle fun q hq => by rw [hsize]; exact hA.own q (merge_pf hk hk2 ho' hq)) (merge_apart hD hk hk2 hne ho') ?_ hblk' (by rw [hsize]; exact Nat.le_refl _) hle
  have hout : ∀ b, ob u b = true → o b = false := fun b hb => hD k2 k _ o hk2 hk (fun e => by subst e; simp at hne) b hb
  refine ⟨⟨?_, fun i' q r2 hq hr2 => ?_, fun i' j' q q' b hq hq' hb hb' => ?_, fun i' q b hq hb => ?_, fun b hb => by simp [h5 b hb], fun i' q b hq hb => ?_⟩, fun b hb => ?_⟩
  · rw [List.length_set]
    refine ⟨by rw [List.length_set, hrl, Nat.mul_one], .inr ⟨g', cap', new.toArray, hub, hBb, setRow_heap w g' cur _ RT _ hheap, hlc, hcm, by simp [hnl], ?_⟩⟩
    rw [Nat.mul_one]; simpa using hrs'
  · rw [List.getElem?_set] at hq hr2
    by_cases hii : i.toNat = i'
    · subst hii
      rw [if_pos rfl, if_pos (by omega)] at hq
      rw [if_pos rfl, if_pos hilt] at hr2
      cases hq; cases hr2
      obtain ⟨cells, hc1, hc2⟩ := hO2.row
      exact ⟨cells, ownsRow_kept hc1 (fun b hb => hblk b (hgu b (ob_iff.2 hb))), hc2.mono hle⟩
    · rw [if_neg hii] at hq hr2
      obtain ⟨cells, hc1, hc2⟩ := h2 i' q r2 (fun e => hii e.symm) hq hr2
      exact ⟨cells, ownsRow_kept hc1 (fun b hb => hblk b (fun e => by subst e; exact h4 _ _ b (fun e => hii e.symm) hq hb (by rw [hv]; rfl))), hc2.mono hle⟩
  · rw [List.getElem?_set] at hq hq'
    by_cases hi' : i.toNat = i'
    · by_cases hj' : i.toNat = j'
      · omega
      · rw [if_pos hi', if_pos (by omega)] at hq
        rw [if_neg hj'] at hq'
        cases hq
        have := hout b (ob_iff.2 hb)
        rw [h6 _ _ b (fun e => hj' e.symm) hq' hb'] at this; cases this
    · rw [if_neg hi'] at hq
      by_cases hj' : i.toNat = j'
      · rw [if_pos hj', if_pos (by omega)] at hq'
        cases hq'
        have := hout b (ob_iff.2 hb')
        rw [h6 _ _ b (fun e => hi' e.symm) hq hb] at this; cases this
      · rw [if_neg hj'] at hq'
        exact h3 i' j' q q' b (fun e => hi' e.symm) (fun e => hj' e.symm) hq hq' hb hb'
  · rw [List.getElem?_set] at hq
    split at hq
    · split at hq
      · cases hq; rw [hv]; intro e; simp [Value.ownBlock] at e; exact hgu b (ob_iff.2 hb) e.symm
      · cases hq
    · rename_i e; exact h4 i' q b (fun e' => e e'.symm) hq hb
  · rw [List.getElem?_set] at hq
    split at hq
    · split at hq
      · cases hq; simp [ob_iff.2 hb]
      · cases hq
    · rename_i e; simp [h6 i' q b (fun e' => e e'.symm) hq hb]
  · rw [hsize]
    rcases ho' b hb with hb | hb
    · exact hO.lt b hb
    · exact own_lt hO2 hb
end
end Go.Proofs.Ytkbilbeaedocjaa.Wh
