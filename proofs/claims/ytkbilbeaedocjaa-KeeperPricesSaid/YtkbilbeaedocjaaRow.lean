/-
  What is proved: what an argument is that a row's statement reads; rows that say 'true, and all reads as it did'.
-/
import Derived.Test.YtkbilbeaedocjaaSt5
import Derived.ProofKit
import Derived.OpenShut
import Derived.ChangeOld
namespace Go.Proofs.Ytkbilbeaedocjaa.Wh
open Go Go.RowKit

structure OpenT (P : Program) (T : TypeId) (α : Type) [Enc α] : Prop where
  ty : TyP P T α
  one : Enc.agg α = false → ∀ (w : World) (base : Nat) (v : Value), Value.okWide P w .any base T v → v.cells = #[v]
  out : ∀ {H : Type} {enc : TypeId × Value → H} {w : World} {base : Nat} {sp : Nat → Bool} {held : Bool} (n : Nat) (cs : List Value) (x : DataW H × List MemPlace), DataW.trod enc P w base sp held n T cs = some x → ∃ a : α, Enc.rep w.cell? cs a
theorem OpenT.int {P : Program} {T : TypeId} (hi : (P.info? T).map (·.size) = some 1) (h : P.underlying T = some (.int .i64)) : OpenT P T Int where
  ty := TyP.mk' h rfl hi
  one _ w base v hv := by
    simp only [Value.okWide, h, Cell.okWide] at hv
    cases v <;> simp_all [Cell.ok, Value.cells]
  out n cs x ht := by
    cases n with
    | zero => simp [DataW.trod] at ht
    | succ n =>
      simp only [DataW.trod, h] at ht
      match cs, ht with
      | [.int k m], ht =>
        simp only at ht
        split at ht
        · rename_i hk; obtain ⟨rfl, _⟩ := hk; exact ⟨m, rfl⟩
        · cases ht
theorem OpenT.bool {P : Program} {T : TypeId} (hi : (P.info? T).map (·.size) = some 1) (h : P.underlying T = some .bool) : OpenT P T Bool where
  ty := TyP.mk' h rfl hi
  one _ w base v hv := by
    simp only [Value.okWide, h, Cell.okWide] at hv
    cases v <;> simp_all [Cell.ok, Value.cells]
  out n cs x ht := by
    cases n with
    | zero => simp [DataW.trod] at ht
    | succ n =>
      simp only [DataW.trod, h] at ht
      match cs, ht with
      | [.bool b], ht => exact ⟨b, rfl⟩
theorem OpenT.str {P : Program} {T : TypeId} (hi : (P.info? T).map (·.size) = some 1) (h : P.underlying T = some .string) : OpenT P T ByteArray where
  ty := TyP.mk' h rfl hi
  one _ w base v hv := by
    simp only [Value.okWide, h, Cell.okWide] at hv
    cases v <;> simp_all [Cell.ok, Value.cells]
  out n cs x ht := by
    cases n with
    | zero => simp [DataW.trod] at ht
    | succ n =>
      simp only [DataW.trod, h] at ht
      match cs, ht with
      | [.string s], ht => exact ⟨s, rfl⟩
theorem mapM_all {α β : Type} {f : α → Option β} : ∀ {l : List α} {r : List β}, l.mapM f = some r → ∀ a ∈ l, ∃ b, f a = some b
  | [], _, _, a, h => by simp at h
  | x :: l, r, h, a, ha => by
    rw [List.mapM_cons] at h
    cases hx : f x with
    | none => rw [hx] at h; cases h
    | some y =>
      rw [hx] at h
      cases hl : l.mapM f with
      | none => rw [hl] at h; cases h
      | some s =>
        rcases List.mem_cons.1 ha with rfl | ha
        · exact ⟨y, hx⟩
        · exact mapM_all hl a ha
theorem mapM_get {α β : Type} {f : α → Option β} : ∀ {l : List α} {r : List β}, l.mapM f = some r → r.length = l.length ∧ ∀ (j : Nat) (b : β), r[j]? = some b → ∃ a, l[j]? = some a ∧ f a = some b
  | [], r, h => by cases h; simp
  | x :: l, r, h => by
    rw [List.mapM_cons] at h
    cases hx : f x with
    | none => rw [hx] at h; cases h
    | some y =>
      rw [hx] at h
      cases hl : l.mapM f with
      | none => rw [hl] at h; cases h
      | some s =>
        rw [hl] at h
        cases h
        obtain ⟨h1, h2⟩ := mapM_get hl
        refine ⟨by simp [h1], fun j b hb => ?_⟩
        cases j with
        | zero => simp at hb; subst hb; exact ⟨x, rfl, hx⟩
        | succ j => simpa using h2 j b (by simpa using hb)
theorem cells_get {w : World} {base : Nat} {a : Addr} {n : Nat} {cs : List Value} (h : w.cells? base a n = some cs) : cs.length = n ∧ ∀ (j : Nat) (v : Value), cs[j]? = some v → w.cell? (a.add j) = some v := by
  unfold World.cells? at h
  split at h
  · obtain ⟨h1, h2⟩ := mapM_get h
    refine ⟨by simpa using h1, fun j v e => ?_⟩
    obtain ⟨i, hi, hv⟩ := h2 j v e
    obtain ⟨hlt, he⟩ := List.getElem?_eq_some_iff.1 hi
    simp at he
    subst he; exact hv
  · cases h
theorem choose_list {α : Type} {p : Nat → α → Prop} : ∀ (n : Nat), (∀ i, i < n → ∃ a, p i a) → ∃ l : List α, l.length = n ∧ ∀ i (h : i < l.length), p i l[i]
  | 0, _ => ⟨[], rfl, fun i h => by simp at h⟩
  | n + 1, h => by
    obtain ⟨l, hl, hp⟩ := choose_list n fun i hi => h i (by omega)
    obtain ⟨a, ha⟩ := h n (by omega)
    refine ⟨l ++ [a], by simp [hl], fun i hi => ?_⟩
    by_cases hin : i < n
    · rw [List.getElem_append_left (by omega)]; exact hp i (by omega)
    · have : i = n := by simp at hi; omega
      subst this
      rw [List.getElem_append_right (by omega)]
      simpa [hl] using ha
theorem OpenT.slice {P : Program} {T E : TypeId} {α : Type} [Enc α] (hi : (P.info? T).map (·.size) = some 1) (h : P.underlying T = some (.slice E)) (hE : OpenT P E α) (hpos : Nat.blt 0 (Enc.size α) = true) : OpenT P T (List α) where
  ty := TyP.mk' h rfl hi
  one _ w base v hv := by
    simp only [Value.okWide, h, Cell.okWide] at hv
    cases v <;> simp_all [Cell.ok, Value.cells]
  out n cs x ht := by
    have hpos : 0 < Enc.size α := by simpa [Nat.blt_eq] using hpos
    obtain ⟨inf, hinf, hsz⟩ := hE.ty.info
    have hc : P.cellsOf E = Enc.size α := by simp [Program.cellsOf, hinf, hsz]
    cases n with
    | zero => simp [DataW.trod] at ht
    | succ n =>
      rename_i w base sp held
      have hsh : cs = [.slice none 0 0] ∨ ∃ a len cap, cs = [.slice (some a) len cap] := by
        unfold DataW.trod at ht
        rw [h] at ht
        split at ht <;> first | (rename_i e _; cases e; done) | cases ht | skip
        all_goals first | exact .inl rfl | exact .inr ⟨_, _, _, rfl⟩ | (simp_all; done)
      rcases hsh with rfl | ⟨a, len, cap, rfl⟩
      · exact ⟨[], .inl ⟨none, 0, rfl, Nat.zero_le _, rfl⟩⟩
      · simp only [DataW.trod, h] at ht
        split at ht
        · rename_i hb
          obtain ⟨hb1, hb2, hb3⟩ := hb
          cases hm : (List.range len).mapM (fun i => (w.cells? base (a.add (i * P.cellsOf E)) (P.cellsOf E)).bind (DataW.trod _ P w base sp held n E)) with
          | none => rw [hm] at ht; cases ht
          | some elems =>
            have hall : ∀ i, i < len → ∃ y : α, ∃ vs, Enc.rep w.cell? vs y ∧ ∀ j u, vs[j]? = some u → w.cell? ((a.add (i * Enc.size α)).add j) = some u := by
              intro i hi
              obtain ⟨y, hy⟩ := mapM_all hm i (List.mem_range.2 hi)
              cases hcs : w.cells? base (a.add (i * P.cellsOf E)) (P.cellsOf E) with
              | none => rw [hcs] at hy; cases hy
              | some vs =>
                rw [hcs] at hy
                obtain ⟨z, hz⟩ := hE.out n vs y hy
                rw [hc] at hcs
                exact ⟨z, vs, hz, (cells_get hcs).2⟩
            obtain ⟨xs, hxl, hxs⟩ := choose_list len hall
            cases hl : len with
            | zero =>
              have : xs = [] := List.eq_nil_of_length_eq_zero (by omega)
              exact ⟨[], .inl ⟨some a, cap, by rw [← hl, hl], hb3, rfl⟩⟩
            | succ m =>
              have hspot : a.spot = none := by
                obtain ⟨vs, hr, hv⟩ := hxs 0 (by omega)
                have hlen := Enc.len hr
                have := hv 0 vs[0] (by simp)
                have := World.cell?_spot this
                simp only [Addr.add] at this
                split at this <;> simp_all
              obtain ⟨b, off, sp'⟩ := a
              have hspot : sp' = none := hspot
              subst hspot
              refine ⟨xs, .inr ⟨b, off, cap, by rw [← hl, hxl], by omega, hb3, fun i hi => ?_⟩⟩
              obtain ⟨vs, hr, hv⟩ := hxs i hi
              refine ⟨vs, hr, fun j u e => ?_⟩
              have := hv j u e
              rw [Addr.add_lit, Addr.add_lit] at this
              exact this
        · cases ht
theorem trod_struct {P : Program} {T : TypeId} {fs : Array Field} (h : P.underlying T = some (.struct fs)) {H : Type} {enc : TypeId × Value → H} {w : World} {base : Nat} {sp : Nat → Bool} {held : Bool} {n : Nat} {cs : List Value} {x : DataW H × List MemPlace} (ht : DataW.trod enc P w base sp held n T cs = some x) :
    ∃ m, cs.length = P.cellsOf T ∧ ∀ (k : Nat) (f : Field), fs[k]? = some f → ∃ y, DataW.trod enc P w base sp held m f.type ((cs.drop f.offset).take (P.cellsOf f.type)) = some y := by
  cases n with
  | zero => simp [DataW.trod] at ht
  | succ n =>
    simp only [DataW.trod, h] at ht
    split at ht
    · rename_i hl
      refine ⟨n, hl, fun k f hf => ?_⟩
      cases hm : fs.toList.mapM (fun f => DataW.trod enc P w base sp held n f.type ((cs.drop f.offset).take (P.cellsOf f.type))) with
      | none => rw [hm] at ht; cases ht
      | some r => exact mapM_all hm f (by simpa using Array.mem_of_getElem? hf)
    · cases ht
theorem OpenT.fld {P : Program} {E : TypeId} {α : Type} [Enc α] (hE : OpenT P E α) {H : Type} {enc : TypeId × Value → H} {w : World} {base : Nat} {sp : Nat → Bool} {held : Bool} {m off : Nat} {cs : List Value} (h : ∃ y, DataW.trod enc P w base sp held m E ((cs.drop off).take (P.cellsOf E)) = some y) :
    ∃ a : α, Enc.rep w.cell? ((cs.drop off).take (Enc.size α)) a := by
  obtain ⟨y, hy⟩ := h
  obtain ⟨inf, hinf, hsz⟩ := hE.ty.info
  have hc : P.cellsOf E = Enc.size α := by simp [Program.cellsOf, hinf, hsz]
  rw [hc] at hy
  exact hE.out m _ y hy
theorem rep_pair {α β : Type} [Enc α] [Enc β] {c : Mem} {cs : List Value} {a : α} {b : β} (h : Enc.rep c (cs.take (Enc.size α)) a) (k : Enc.rep c (cs.drop (Enc.size α)) b) : Enc.rep c cs (a, b) := ⟨_, _, (List.take_append_drop _ _).symm, h, k⟩
theorem OpenT.array {P : Program} {T E : TypeId} {n : Nat} {α : Type} [Enc α] (hi : (P.info? T).map (·.size) = some (n * Enc.size α)) (h : P.underlying T = some (.array n E)) (hE : OpenT P E α) {X : Type} [Enc X] (hX : Enc.agg X = true) (hs : Enc.size X = n * Enc.size α)
    (hr : ∀ (c : Mem) (cs : List Value) (l : List α), l.length = n → cs.length = n * Enc.size α → (∀ i (hi : i < l.length), Enc.rep c ((cs.drop (i * Enc.size α)).take (Enc.size α)) l[i]) → ∃ x : X, Enc.rep c cs x) : OpenT P T X where
  ty := TyP.mk' h (by rw [hX]; rfl) (by rw [hs]; exact hi)
  one ha := by rw [hX] at ha; cases ha
  out m cs x ht := by
    obtain ⟨inf, hinf, hsz⟩ := hE.ty.info
    have hc : P.cellsOf E = Enc.size α := by simp [Program.cellsOf, hinf, hsz]
    cases m with
    | zero => simp [DataW.trod] at ht
    | succ m =>
      rename_i w base sp held
      simp only [DataW.trod, h] at ht
      split at ht
      · rename_i hl
        cases hm : (List.range n).mapM (fun i => DataW.trod _ P w base sp held m E ((cs.drop (i * P.cellsOf E)).take (P.cellsOf E))) with
        | none => rw [hm] at ht; cases ht
        | some r =>
          obtain ⟨l, hll, hlp⟩ := choose_list (p := fun i (y : α) => Enc.rep w.cell? ((cs.drop (i * Enc.size α)).take (Enc.size α)) y) n fun i hi => by
            obtain ⟨y, hy⟩ := mapM_all hm i (List.mem_range.2 hi)
            rw [hc] at hy
            exact hE.out m _ y hy
          have hct : P.cellsOf T = n * Enc.size α := by
            unfold Program.cellsOf
            cases hq : P.info? T with
            | none => rw [hq] at hi; cases hi
            | some q => rw [hq] at hi; simpa using hi
          exact hr _ cs l hll (hl.trans hct) hlp
      · cases ht
theorem vec_open {n : Nat} {α : Type} [Enc α] {c : Mem} {cs : List Value} {l : List α} (hl : l.length = n) (hc : cs.length = n * Enc.size α) (h : ∀ i (hi : i < l.length), Enc.rep c ((cs.drop (i * Enc.size α)).take (Enc.size α)) l[i]) : ∃ x : Vector α n, Enc.rep c cs x := by
  refine ⟨⟨l.toArray, by simpa using hl⟩, ?_⟩
  show RepL c cs l
  rw [← hl] at hc
  clear hl
  induction l generalizing cs with
  | nil => exact List.eq_nil_of_length_eq_zero (by simpa using hc)
  | cons a r ih =>
    have h0 : Enc.rep c ((cs.drop (0 * Enc.size α)).take (Enc.size α)) a := h 0 (by simp)
    rw [Nat.zero_mul, List.drop_zero] at h0
    refine ⟨cs.take (Enc.size α), cs.drop (Enc.size α), (List.take_append_drop _ _).symm, h0, ih (by rw [List.length_drop, hc, List.length_cons, Nat.succ_mul]; omega) fun i hi => ?_⟩
    have := h (i + 1) (by simpa using hi)
    rw [List.drop_drop, show Enc.size α + i * Enc.size α = (i + 1) * Enc.size α from by rw [Nat.succ_mul]; omega]
    simpa using this
theorem OpenT.top {P : Program} {T : TypeId} {α : Type} [Enc α] (h : OpenT P T α) {H : Type} {enc : TypeId × Value → H} {W : World} {base b0 : Nat} {sp : Nat → Bool} {held : Bool} {v : Value} {d : DataW H} {p : List MemPlace}
    (hv : Value.okWide P W .any base T v) (ht : DataW.Trod enc P W b0 sp held T v d p) : ∃ a : α, val (vw (fun _ => false) W) v a := by
  obtain ⟨n, hn⟩ := ht
  obtain ⟨a, ha⟩ := h.out n _ _ hn
  have hvw : vw (fun _ => false) W = W.cell? := by funext q; simp [vw]
  rw [hvw]
  refine ⟨a, ?_⟩
  unfold val
  cases hq : Enc.agg α with
  | false =>
    have := h.one hq W base v hv
    rw [this] at ha
    exact ha
  | true =>
    obtain ⟨d', hd, hag⟩ := h.ty.desc
    rw [hq] at hag
    unfold Value.okWide at hv
    rw [hd] at hv
    cases d' <;> simp [aggD] at hag
    · obtain ⟨cs, rfl, _⟩ := hv; exact ⟨cs.toList, by simp, by simpa [Value.cells] using ha⟩
    · obtain ⟨cs, rfl, _⟩ := hv; exact ⟨cs.toList, by simp, by simpa [Value.cells] using ha⟩
/-- Arguments read behind the call as they read before. -/
theorem trodAll_stays {P : Program} {H : Type} {enc : TypeId × Value → H} (hl : laidOutB P = true) {W W' : World} (hb : Below W.heap.size W W') : ∀ {ts : List TypeId} {vs : List Value} {ds : List (DataW H)} {p : List MemPlace}, (ts.all fun t => P.readableRec t && Nat.blt t P.types.size) = true →
    DataW.TrodAll enc P W 0 (fun _ => true) true ts vs ds p → DataW.TrodAll enc P W' 0 (fun b => decide (b < W.heap.size)) true ts vs ds p
  | [], [], [], _, _, h => h
  | t :: ts, v :: vs, d :: ds, p, hr, ⟨p1, p2, h1, h2, e⟩ => by
    rw [List.all_cons, Bool.and_eq_true, Bool.and_eq_true] at hr
    obtain ⟨⟨hr1, hr2⟩, hr3⟩ := hr
    refine ⟨p1, p2, ?_, trodAll_stays hl hb hr3 h2, e⟩
    have k := h1
    obtain ⟨m, hm⟩ := k
    exact Go.RowKit.Below.trod hl hr1 (by simpa [Nat.blt_eq] using hr2) h1 hb.kit (DataW.trod_lt m _ _ _ hm)
  | [], [], _ :: _, _, _, h => h.elim
  | [], _ :: _, _, _, _, h => h.elim
  | _ :: _, [], _, _, _, h => h.elim
  | _ :: _, _ :: _, [], _, _, h => h.elim
end Go.Proofs.Ytkbilbeaedocjaa.Wh
