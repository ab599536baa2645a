/-
  What is proved: facts on further slots of what is let go; results that lie in cells; operations that may come at any time.
-/
import Derived.Test.YtkbilbeaedocjaaSt3
namespace Go.Proofs.Ytkbilbeaedocjaa.Wh
open Go Go.RowKit

section
variable {P : Program} {Γ Γ' : List (Nat × Pr)} {n : Nat} {F0 : Nat → Bool} {js js' : List Item} {w0 w : World} {a : Act} {ops : Array Oper} {Q : Exit → Act → World → Prop}
/-- Another slot with the same value. -/
theorem st_also {t q : Nat} {v : Value} {φ : Pr} (h : St n F0 js Γ w0 a w) (h' : St n F0 js' Γ' w0 a w) (et : lk Γ t = some (Pr.is v)) (eq : lk Γ q = some (Pr.is v)) (e' : lk Γ' t = some φ) : St n F0 js' ((q, φ) :: Γ') w0 a w := by
  have h1 : tmp a t = v := h.at_.sat t _ et
  have h2 : tmp a q = v := h.at_.sat q _ eq
  refine ⟨⟨h'.at_.size, h'.at_.defers, h'.at_.own, fun s ψ e => ?_⟩, h'.apart, h'.own, h'.low, h'.below, h'.base⟩
  unfold lk at e
  cases hb : Nat.beq q s with
  | true =>
    rw [hb] at e
    simp only [cond_true, Option.some.injEq] at e
    subst e
    have := Nat.eq_of_beq_eq_true hb
    subst this
    rw [h2, ← h1]
    exact h'.at_.sat t _ e'
  | false =>
    rw [hb] at e
    exact h'.at_.sat s ψ e
/-! ### results that lie in cells -/
theorem run_resC1 {fn : Func} {α : Type} [Enc α] {T t : Nat} {F : Nat → Bool} {a : Act} {w : World} {x : α} (hr : fn.results = #[.cell t T]) (hT : TyP P T α) (h : (isA x).p (v2 F w) (tmp a t)) :
    ∃ v, (results fn a.tmps).run P w = .ok v w ∧ (isV x).p (v2 F w) v := by
  obtain ⟨v, h1, h2⟩ := run_cell (P := P) hT h
  refine ⟨v, ?_, h2⟩
  simp at h1
  simp [results, hr]
  exact h1
theorem run_resC3 {fn : Func} {α : Type} [Enc α] {T t p q : Nat} {F : Nat → Bool} {a : Act} {w : World} {x : α} (hr : fn.results = #[.cell t T, .tmp p, .tmp q]) (hT : TyP P T α) (h : (isA x).p (v2 F w) (tmp a t)) :
    ∃ v, (results fn a.tmps).run P w = .ok (.tuple [v, tmp a p, tmp a q].toArray) w ∧ (isV x).p (v2 F w) v := by
  obtain ⟨v, h1, h2⟩ := run_cell (P := P) hT h
  refine ⟨v, ?_, h2⟩
  simp [results, hr, tmp]
  simp at h1
  cases hq : Sem.run P (asAddr (a.tmps[t]?.getD undef)) w with
  | ok b w1 =>
    rw [hq] at h1
    have h1 : Sem.run P (loadVar T b) w1 = .ok v w := h1
    show (Sem.run P (loadVar T b) w1).andThen _ = _
    rw [h1]; rfl
  | halt e w1 => rw [hq] at h1; cases h1
end
/-! ### row i, by its header alone -/
def isTHn (rs : List Value) (i n : Nat) : Pr := ⟨fun _ u => rs[i]? = some u ∧ ((u = .slice none 0 0 ∧ n = 0) ∨ ∃ b cap, u = .slice (some ⟨b, 0, none⟩) n cap), fun _ h => h⟩
section
variable {P : Program} {Γ : List (Nat × Pr)} {ty : TypeId}
theorem odTHn {α : Type} [Enc α] {t i : Nat} {rs : List Value} {r : List α} (h : lk Γ t = some (isTR rs i r)) : Od Γ (.tmp t) (isTHn rs i (List.length r)) :=
  ⟨_, h, fun _ _ k => ⟨k.1, k.2.imp (fun h => ⟨h.1, by rw [h.2]; rfl⟩) (fun ⟨b, cap, _, h, _⟩ => ⟨b, cap, h⟩)⟩⟩
theorem sp_lenTHn {x : Operand} {RT E : TypeId} {rs : List Value} {i n : Nat} (hT : P.underlying RT = some (.slice E)) (hx : Od Γ x (isTHn rs i n)) : StepP P (.call { callee := .builtin .len, args := #[x], argTypes := #[RT] }) ty Γ (isV (n : Int)) :=
  step_pure fun c w a hc hm => by
    obtain ⟨h2, h3⟩ := hx.get hm (by simp [Op.operands, Call.operands])
    obtain ⟨a', cap', hv⟩ : ∃ a' cap', a.eval x = .slice a' n cap' := by
      rcases h3 with ⟨hu, rfl⟩ | ⟨b, cap', hu⟩
      · exact ⟨none, 0, hu⟩
      · exact ⟨_, cap', hu⟩
    refine ⟨.int .i64 n, ?_, rfl⟩
    simp [execOp, plain, resolve, invoke, builtin, Builtin.len_, hv, run_underlying hT, goInt]
theorem sp_indexAddrTHn {α : Type} [Enc α] {x k : Operand} {RT E : TypeId} {rs : List Value} {i : Nat} {r : List α} {j : Int} {y : α} (hT : SlP P RT E α) (hx : Od Γ x (isTHn rs i (List.length r))) (hk : Od Γ k (isV j)) (h : idx r j = some y) : StepP P (.indexAddr RT x k) ty Γ (isHA α rs i j.toNat) :=
  step_pure fun c w a hc hm => by
    have hkv := get_int hk hm (by simp [Op.operands])
    obtain ⟨h2, h3⟩ := hx.get hm (by simp [Op.operands])
    obtain ⟨h0, hlt, he⟩ := idx_some h
    rcases h3 with ⟨_, h4⟩ | ⟨b, cap', hu⟩
    · omega
    · refine ⟨.pointer (some ⟨b, j.toNat * Enc.size α, none⟩), ?_, b, _, cap', by rw [← hu]; exact h2, rfl⟩
      have hi : 0 ≤ j ∧ j < (r.length : Int) := ⟨h0, by omega⟩
      simp [execOp, plain, hkv, hu, Instr.indexAt, asIntOf, run_underlying hT.desc, hi, hT.elem.sizeOf w, Addr.add_lit]
/-! ### what may come at any time -/
theorem sy_move {x : Operand} {φ : Pr} (hx : Od Γ x φ) : StepY P (.move x) ty Γ φ :=
  fun c a hm => ⟨a.eval x, hx.get hm (by simp [Op.operands]), fun w _ => by simp [execOp, plain]⟩
theorem run_load_v {T : TypeId} {α : Type} [Enc α] (hT : TyP P T α) {c : Mem} {b off : Nat} {x : α} (h : Holds c b off x) : ∃ v, val c v x ∧ ∀ w : World, Mem.le c w.cell? → (loadVar T ⟨b, off, none⟩).run P w = .ok v w := by
  obtain ⟨vs, hr, hv⟩ := h
  have hl := Enc.len hr
  cases ha : Enc.agg α with
  | false =>
    have h1 := Enc.one (α := α) ha
    rw [h1] at hl
    obtain ⟨v, rfl⟩ : ∃ v, vs = [v] := by
      match vs, hl with
      | [v], _ => exact ⟨v, rfl⟩
    refine ⟨v, by unfold val; rw [ha]; exact hr, fun w hc => ?_⟩
    unfold loadVar
    simp only [Sem.run_bind, hT.isAgg w, Result.andThen, ha]
    have := hc _ _ (hv 0 v rfl)
    simp at this
    simp [this]
  | true =>
    refine ⟨.agg vs.toArray, by unfold val; rw [ha]; exact ⟨vs, rfl, hr⟩, fun w hc => ?_⟩
    unfold loadVar
    simp only [Sem.run_bind, hT.isAgg w, Result.andThen, ha]
    have := run_loadCells_list (P := P) w ⟨b, off, none⟩ vs (fun j v e => by rw [Addr.add_lit]; exact hc _ _ (hv j v e))
    rw [hl] at this
    simp [hT.sizeOf w, this]
theorem sy_load {α : Type} [Enc α] {x : Operand} {T : TypeId} {d : α} (hT : TyP P T α) (hx : Od Γ x (isA d)) : StepY P (.load T x) ty Γ (isV d) :=
  fun c a hm => by
    obtain ⟨b, off, hv, hh⟩ := hx.get hm (by simp [Op.operands])
    obtain ⟨v, hval, hr⟩ := run_load_v hT hh
    exact ⟨v, hval, fun w hc => by simp [execOp, plain, hv, Instr.loadAt, Instr.sureAddr, hr w hc]⟩
theorem sy_fieldAddr {S α : Type} [Enc S] [Enc α] {x : Operand} {T : TypeId} {k : Nat} {f : S → α} {d : S} (hf : FieldP P T k f) (hx : Od Γ x (isA d)) : StepY P (.fieldAddr T x k) ty Γ (isA (f d)) :=
  fun c a hm => by
    obtain ⟨b, off, hv, vs, hr, hh⟩ := hx.get hm (by simp [Op.operands])
    obtain ⟨fs, fd, i, h1, h2, h3, h4, h5, h6⟩ := hf.out
    refine ⟨.pointer (some ⟨b, off + fd.offset, none⟩), ⟨b, off + fd.offset, rfl, _, h6 c.c vs d hr, fun j v e => ?_⟩, fun w _ => ?_⟩
    · rw [List.getElem?_take] at e
      split at e
      · rw [List.getElem?_drop] at e
        have := hh _ _ e
        rw [Nat.add_assoc]; exact this
      · cases e
    · simp [execOp, plain, hv, Instr.fieldAt, run_underlying h1, h2, Instr.sureAddr, fieldPlace, Go.sizeOf, typeInfo, h3, h5, Addr.add_lit]
theorem sy_indexAddr {α : Type} [Enc α] {x k : Operand} {T E : TypeId} {xs : List α} {i : Int} {y : α} (hT : SlP P T E α) (hx : Od Γ x (isV xs)) (hk : Od Γ k (isV i)) (h : idx xs i = some y) : StepY P (.indexAddr T x k) ty Γ (isA y) :=
  fun c a hm => by
    have h2 := get_int hk hm (by simp [Op.operands])
    have h1 : slice c.c (a.eval x) xs := hx.get hm (by simp [Op.operands])
    obtain ⟨h0, hlt, he⟩ := idx_some h
    rcases h1 with ⟨a', cap, hv, _, rfl⟩ | ⟨b, off, cap, hv, hl, hcap, hh⟩
    · simp at hlt
    · refine ⟨.pointer (some ⟨b, off + i.toNat * Enc.size α, none⟩), ⟨b, _, rfl, by rw [← he]; exact hh _ hlt⟩, fun w _ => ?_⟩
      have hi : 0 ≤ i ∧ i < (xs.length : Int) := ⟨h0, by omega⟩
      simp [execOp, plain, h2, hv, Instr.indexAt, asIntOf, run_underlying hT.desc, hi, hT.elem.sizeOf w, Addr.add_lit]
theorem sy_neg {x : Operand} {T : TypeId} {n : Int} (hx : Od Γ x (isV n)) : StepY P (.unOp .neg T x) ty Γ (isV (wr (0 - n))) :=
  fun c a hm => by
    have h1 := get_int hx hm (by simp [Op.operands])
    exact ⟨.int .i64 (wr (0 - n)), rfl, fun w _ => by simp [execOp, plain, h1, Op.unary, Op.intArith, wr]⟩
section
variable {x y : Operand} {T T' : TypeId} {m n : Int} (hx : Od Γ x (isV m)) (hy : Od Γ y (isV n))
include hx hy
theorem sy_min : StepY P (.call { callee := .builtin .min, args := #[x, y], argTypes := #[T, T'] }) ty Γ (isV (imin m n)) :=
  fun c a hm => by
    have h1 := get_int hx hm (by simp [Op.operands, Call.operands])
    have h2 := get_int hy hm (by simp [Op.operands, Call.operands])
    refine ⟨.int .i64 (imin m n), rfl, fun w _ => ?_⟩
    simp [execOp, plain, resolve, invoke, builtin, Builtin.min_, Builtin.min2, h1, h2, imin]
end
end
/-! ### a row taken out of a table; a table with a hole -/
def isVn (v : Value) (n : Nat) : Pr := ⟨fun _ u => u = v ∧ ((v = .slice none 0 0 ∧ n = 0) ∨ ∃ g cap, v = .slice (some ⟨g, 0, none⟩) n cap), fun _ h => h⟩
theorem idx_get {α : Type} {xs : List α} {k : Int} {y : α} (h : idx xs k = some y) : xs[k.toNat]? = some y := by
  obtain ⟨_, hlt, he⟩ := idx_some h
  rw [List.getElem?_eq_getElem hlt, he]
section
variable {P : Program} {Γ : List (Nat × Pr)} {n : Nat} {F0 : Nat → Bool} {js : List Item} {w0 w : World} {a : Act} {ty : TypeId}
theorem odVn {t m : Nat} {v : Value} (h : lk Γ t = some (isVn v m)) : Od Γ (.tmp t) (Pr.is v) := ⟨_, h, fun _ _ k => k.1⟩
theorem sp_indexAddrVn {α : Type} {x k : Operand} {T RT : TypeId} {v : Value} {rows : List α} {i : Int} {r : α} (hT : P.underlying T = some (.slice RT)) (hR : (P.info? RT).map (·.size) = some 1) (hx : Od Γ x (isVn v (List.length rows))) (hk : Od Γ k (isV i)) (h : idx rows i = some r) :
    StepP P (.indexAddr T x k) ty Γ (isTP v i.toNat) :=
  step_pure fun c w a hc hm => by
    have hkv := get_int hk hm (by simp [Op.operands])
    obtain ⟨h1, h2⟩ := hx.get hm (by simp [Op.operands])
    obtain ⟨h0, hlt, he⟩ := idx_some h
    rcases h2 with ⟨_, h3⟩ | ⟨g, cap, hv⟩
    · omega
    · refine ⟨.pointer (some ⟨g, i.toNat, none⟩), ?_, g, _, cap, hv, rfl⟩
      have hi : 0 ≤ i ∧ i < (rows.length : Int) := ⟨h0, by omega⟩
      cases hin : P.info? RT with
      | none => rw [hin] at hR; cases hR
      | some inf =>
        rw [hin] at hR
        have hs : inf.size = 1 := by simpa using hR
        simp [execOp, plain, hkv, h1, hv, Instr.indexAt, asIntOf, run_underlying hT, hi, Go.sizeOf, typeInfo, hin, hs, Addr.add_lit]
theorem St.put_fact {t : Nat} {φ : Pr} (h : St n F0 js Γ w0 a w) (hv : φ.p (v2 (pf F0 (Its js)) w) (tmp a t)) : St n F0 js ((t, φ) :: Γ) w0 a w := by
  refine ⟨⟨h.at_.size, h.at_.defers, h.at_.own, fun s ψ e => ?_⟩, h.apart, h.own, h.low, h.below, h.base⟩
  unfold lk at e
  cases hb : Nat.beq t s with
  | true =>
    rw [hb] at e
    simp only [cond_true, Option.some.injEq] at e
    subst e
    have := Nat.eq_of_beq_eq_true hb
    subst this
    exact hv
  | false =>
    rw [hb] at e
    exact h.at_.sat s ψ e
theorem Od.now {t : Nat} {φ : Pr} (h : St n F0 js Γ w0 a w) (hx : Od Γ (.tmp t) φ) : φ.p (v2 (pf F0 (Its js)) w) (tmp a t) := by
  obtain ⟨ψ, h1, h2⟩ := hx
  exact h2 _ _ (h.at_.sat t ψ h1)
theorem st_vnH {α : Type} [Enc α] {RT E : TypeId} {v : Value} {o : Nat → Bool} {i : Nat} {rs : List Value} {rows : List (List α)} (k t : Nat) (h : St n F0 js Γ w0 a w) (hk : js[k]? = some (Item.hole RT E v o i rs rows)) (e : lk Γ t = some (Pr.is v)) : St n F0 js ((t, isVn v (List.length rows)) :: Γ) w0 a w := by
  refine h.put_fact ⟨h.at_.sat t _ e, ?_⟩
  obtain ⟨h1, _⟩ := (h.it hk : OwnH RT E 0 _ w v o i rs rows).out
  rcases h1.2 with ⟨h2, h3⟩ | ⟨g, cap, cur, h2, _⟩
  · exact .inl ⟨h2, h3⟩
  · exact .inr ⟨g, cap, h2⟩
theorem st_takeT {α : Type} [Enc α] {RT E : TypeId} {v : Value} {o : Nat → Bool} {rs : List Value} {rows : List (List α)} {r : List α} {m t : Nat} (k i : Nat) (h : St n F0 js Γ w0 a w) (hk : js[k]? = some (Item.tab RT E v o rs rows)) (hx : Od Γ (.tmp t) (isTHn rs i m)) (hr : rows[i]? = some r) :
    ∃ u, rs[i]? = some u ∧ (∀ c, Mem.le c (vw (pf F0 (Its js)) w) → Mem.le c (vw (pf F0 (Its (js.set k (Item.hole RT E v (fun b => o b && !ob u b) i rs rows) ++ [Item.sl E u r]))) w)) ∧ St n F0 (js.set k (Item.hole RT E v (fun b => o b && !ob u b) i rs rows) ++ [Item.sl E u r]) ((t, Pr.is u) :: Γ) w0 a w := by
  have hu : rs[i]? = some (tmp a t) := (Od.now h hx).1
  refine ⟨tmp a t, hu, fun c hc => Mem.le_trans hc (vw_less fun b hb => ?_), (st_take k i h hk hu hr).put_fact rfl⟩
  -- no block that was not protected
  have hou : ∀ b, ob (tmp a t) b = true → o b = true := by
    obtain ⟨_, _, _, _, _, h6⟩ := (h.it hk : OwnT RT E 0 _ w v o rs rows).out
    exact fun b hb => h6 i _ b hu (ob_iff.1 hb)
  rcases pf_iff.1 hb with hb | ⟨j, x, hj, hx⟩
  · exact pf_iff.2 (.inl hb)
  · obtain ⟨it, hit, rfl⟩ := its_get hj
    rw [List.getElem?_append] at hit
    split at hit
    · rw [List.getElem?_set] at hit
      split at hit
      · split at hit
        · cases hit
          exact pf_iff.2 (.inr ⟨k, o, its_at hk, by simp [Item.hole] at hx; exact hx.1⟩)
        · cases hit
      · exact pf_iff.2 (.inr ⟨j, it.o, its_at hit, hx⟩)
    · have : it = Item.sl E (tmp a t) r := by
        cases hq : j - (js.set k (Item.hole RT E v (fun b => o b && !ob (tmp a t) b) i rs rows)).length with
        | zero => rw [hq] at hit; simpa using hit.symm
        | succ p => rw [hq] at hit; simp at hit
      subst this
      exact pf_iff.2 (.inr ⟨k, o, its_at hk, hou b hx⟩)
theorem st_alsoT {q i m : Nat} {rs : List Value} {u : Value} (h : St n F0 js Γ w0 a w) (hu : rs[i]? = some u) (hx : Od Γ (.tmp q) (isTHn rs i m)) : St n F0 js ((q, Pr.is u) :: Γ) w0 a w := by
  have h1 : rs[i]? = some (tmp a q) := (Od.now h hx).1
  rw [hu] at h1
  exact h.put_fact (Option.some.inj h1.symm)
end
end Go.Proofs.Ytkbilbeaedocjaa.Wh
