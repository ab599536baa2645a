/-
  What is proved: rows appended to tables; calls that return what is the caller's own.
-/
import Derived.Test.YtkbilbeaedocjaaSt
namespace Go.Proofs.Ytkbilbeaedocjaa.Wh
open Go Go.RowKit

/-! ### values as they are -/
structure Raw where
  v : Value
instance : Enc Raw := Enc.single (fun _ v x => v = x.v ∧ v.oneCell' = true) (fun _ h => h) (fun h => h.2)
theorem odRaw {Γ : List (Nat × Pr)} {x : Operand} {u : Value} (hx : Od Γ x (Pr.is u)) (h1 : u.oneCell' = true) : Od Γ x (isV (Raw.mk u)) := by
  have h2 : ∀ (c : Mem2) (v : Value), v = u → (isV (Raw.mk u)).p c v := fun c v e => ⟨e, e ▸ h1⟩
  cases x with
  | tmp t => obtain ⟨ψ, hl, hk⟩ := hx; exact ⟨ψ, hl, fun c v k => h2 c v (hk c v k)⟩
  | const v => exact fun c => h2 c _ (hx c)
  | global g => exact fun c => h2 c _ (hx c)
  | func f => exact fun c => h2 c _ (hx c)
theorem own_one {α : Type} [Enc α] {E B : Nat} {c : Mem} {w : World} {v : Value} {xs : List α} (h : Own E B c w v xs) : v.oneCell' = true := by
  obtain ⟨cells, hr, _⟩ := h.row
  rcases hr.2 with ⟨rfl, _⟩ | ⟨g, cap, cur, rfl, _⟩ <;> rfl
theorem row_one {w : World} {B E size n : Nat} {v : Value} {xs : List Value} (h : w.ownsRow B E size v n xs) : v.oneCell' = true := by
  rcases h.2 with ⟨rfl, _⟩ | ⟨g, cap, cur, rfl, _⟩ <;> rfl
theorem repL_raw {c : Mem} : ∀ {rs : List Value}, (∀ u ∈ rs, u.oneCell' = true) → RepL c rs (rs.map Raw.mk)
  | [], _ => rfl
  | u :: r, h => ⟨[u], r, rfl, ⟨rfl, h u (by simp)⟩, repL_raw fun x hx => h x (by simp [hx])⟩
theorem repL_unraw {c : Mem} : ∀ {cells : List Value} {rs : List Value}, RepL c cells (rs.map Raw.mk) → cells = rs
  | _, [], h => h
  | _, u :: r, ⟨v1, v2, he, h1, h2⟩ => by
    have := repL_unraw h2
    subst this
    obtain ⟨v, rfl, hv, _⟩ := rep1_out h1
    rw [he, hv]; rfl
theorem pf_push {F0 : Nat → Bool} {os : List (Nat → Bool)} {o : Nat → Bool} : pf F0 (os ++ [o]) = fun b => pf F0 os b || o b := by
  funext b; simp [pf, Bool.or_assoc]
theorem pf_sub {F0 : Nat → Bool} {os : List (Nat → Bool)} {k : Nat} {o u : Nat → Bool} (hk : os[k]? = some o) (hu : ∀ b, u b = true → o b = true) : pf F0 (os ++ [u]) = pf F0 os := by
  rw [pf_push]
  funext b
  cases hq : u b with
  | false => simp
  | true => rw [pf_iff.2 (.inr ⟨k, o, hk, hu b hq⟩)]; rfl
theorem merge_apart' {F0 : Nat → Bool} {os : List (Nat → Bool)} {k k2 N : Nat} {o u o' : Nat → Bool} (hD : Apart os) (hk : os[k]? = some o) (hk2 : os[k2]? = some u) (hne' : k ≠ k2) (hlt : ∀ b, pf F0 os b = true → b < N) (ho : ∀ b, o' b = true → o b = true ∨ u b = true ∨ N ≤ b) : Apart ((os.set k o').eraseIdx k2) := by
  have hold : ∀ (i : Nat) (x : Nat → Bool), ((os.set k o').eraseIdx k2)[i]? = some x → ∃ i', i' ≠ k2 ∧ i' = (if i < k2 then i else i + 1) ∧ ((i' = k ∧ x = o') ∨ (i' ≠ k ∧ os[i']? = some x)) := by
    intro i x hx
    rw [List.getElem?_eraseIdx] at hx
    have fin : ∀ i', (os.set k o')[i']? = some x → (i' = k ∧ x = o') ∨ (i' ≠ k ∧ os[i']? = some x) := by
      intro i' hx'
      rw [List.getElem?_set] at hx'
      split at hx'
      · rename_i e
        split at hx'
        · cases hx'; exact .inl ⟨e.symm, rfl⟩
        · cases hx'
      · rename_i e; exact .inr ⟨fun e' => e e'.symm, hx'⟩
    by_cases hik : i < k2
    · rw [if_pos hik] at hx
      exact ⟨i, by omega, by rw [if_pos hik], fin i hx⟩
    · rw [if_neg hik] at hx
      exact ⟨i + 1, by omega, by rw [if_neg hik], fin (i + 1) hx⟩
  intro i j x y hi hj hij b hb
  obtain ⟨i', hi2, hie, hi3⟩ := hold i x hi
  obtain ⟨j', hj2, hje, hj3⟩ := hold j y hj
  have hij' : i' ≠ j' := by rw [hie, hje]; split <;> split <;> omega
  rcases hi3 with ⟨e1, rfl⟩ | ⟨e1, hx⟩
  · rcases hj3 with ⟨e2, _⟩ | ⟨e2, hy⟩
    · omega
    · rcases ho b hb with h1 | h1 | h1
      · exact hD k j' o y hk hy (fun e => e2 e.symm) b h1
      · exact hD k2 j' u y hk2 hy (fun e => hj2 e.symm) b h1
      · cases hq : y b with
        | false => rfl
        | true => have := hlt b (pf_iff.2 (.inr ⟨j', y, hy, hq⟩)); omega
  · rcases hj3 with ⟨e2, rfl⟩ | ⟨e2, hy⟩
    · cases hq : y b with
      | false => rfl
      | true =>
        rcases ho b hq with h1 | h1 | h1
        · have := hD i' k x o hx hk e1 b hb
          rw [h1] at this; cases this
        · have := hD i' k2 x u hx hk2 hi2 b hb
          rw [h1] at this; cases this
        · have := hlt b (pf_iff.2 (.inr ⟨i', x, hx, hb⟩)); omega
    · exact hD i' j' x y hx hy hij' b hb
section
variable {P : Program} {Γ : List (Nat × Pr)} {n : Nat} {F0 : Nat → Bool} {js : List Item} {w0 w : World} {a : Act} {ops : Array Oper} {Q : Exit → Act → World → Prop}
variable {d : Nat} {t : TypeId} {ps : String} {af : Array Edge} {r : List Oper} {Δ : List (Nat × Pr)}
theorem St.one {α : Type} [Enc α] {E : TypeId} {k : Nat} {v : Value} {xs : List α} (h : St n F0 js Γ w0 a w) (hk : js[k]? = some (Item.sl E v xs)) : v.oneCell' = true := own_one (h.it hk)
/-- 'd = append(t, u)' for an own row u: it is the table's then. -/
theorem s_appendT {k k2 : Nat} {T RT E : TypeId} {x y : Operand} {α : Type} [Enc α] {z : List α} {rs : List Value} {rows zs : List (List α)} {v u : Value} {o : Nat → Bool} (hT : SlP P T RT Raw) (hz : ZeroP P RT Raw) (h : St n F0 js Γ w0 a w)
    (hk : js[k]? = some (Item.tab RT E v o rs rows)) (hk2 : js[k2]? = some (Item.sl E u z)) (hne : Nat.beq k k2 = false) (hl : AllOd Γ Δ) (hC : AllC Δ) (hx : Od Δ x (Pr.is v)) (hy : Od Δ y (isV [Raw.mk u])) (happ : app rows [z] = some zs) (hd : Nat.blt d n = true)
    (K : ∀ a' w' v' o', St n F0 ((js.set k (Item.tab RT E v' o' (rs ++ [u]) zs)).eraseIdx k2) ((d, Pr.is v') :: Δ) w0 a' w' → Mem.le (vw (pf F0 (Its js)) w) (vw (pf F0 (Its ((js.set k (Item.tab RT E v' o' (rs ++ [u]) zs)).eraseIdx k2))) w') → wpList P ops Q r a' w') :
    wpList P ops Q (⟨some d, .call { callee := .builtin .append, args := #[x, y], argTypes := #[T, T] }, t, ps, af, none⟩ :: r) a w := by
  have h' := h.weak hl
  obtain ⟨rfl, hle0⟩ := app_some happ
  have hOT : OwnT RT E w0.heap.size (vw (pf F0 (Its js)) w) w v o rs rows := ownT_to (h.it hk) (fun b hb => h.low k _ b hk hb)
  have hO2 : Own E w0.heap.size (vw (pf F0 (Its js)) w) w u z := own_up (h.it hk2) (fun b hb => h.low k2 _ b hk2 hb)
  obtain ⟨h1, h2, h3, h4, h5, h6⟩ := hOT.out
  have hrl : rs.length = rows.length := by rw [h1.1, Nat.mul_one]
  have hos : ∀ u ∈ rs, u.oneCell' = true := by
    intro x hx
    obtain ⟨i, hi, rfl⟩ := List.getElem_of_mem hx
    obtain ⟨cells, hc1, _⟩ := h2 i _ rows[i] (List.getElem?_eq_getElem hi) (List.getElem?_eq_getElem (by omega))
    exact row_one hc1
  have hpf1 : pf F0 (Its js ++ [ob v]) = pf F0 (Its js) := pf_sub (its_at hk) (fun b hb => h5 b (ob_iff.1 hb))
  have hm : ∀ xs, Met Δ xs (v2 (pf F0 (Its js)) w) a := h'.at_.met
  have hxv : a.eval x = v := hx.get (hm (Op.operands (.call { callee := .builtin .append, args := #[x, y], argTypes := #[T, T] })).toList) (by simp [Op.operands, Call.operands])
  have hyv : val (vw (pf F0 (Its js)) w) (a.eval y) [Raw.mk u] := hy.get (hm (Op.operands (.call { callee := .builtin .append, args := #[x, y], argTypes := #[T, T] })).toList) (by simp [Op.operands, Call.operands])
  have happ' : app (rs.map Raw.mk) [Raw.mk u] = some (rs.map Raw.mk ++ [Raw.mk u]) := by
    unfold app
    rw [if_pos (by simp only [List.length_map, List.length_singleton] at *; omega)]
  obtain ⟨v', w', hr, hO', hB', hv', hg, hle⟩ := run_append (P := P) (F0 := F0) (os := Its js ++ [ob v]) (k := (Its js).length) hT hz (ys := [Raw.mk u]) (xs := rs.map Raw.mk) (B := w0.heap.size) (w := w) (v := v) (y := a.eval y)
    (by simp) h.below.size ⟨⟨rs, by rw [List.length_map, hrl]; exact h1, repL_raw hos⟩⟩ (by rw [hpf1]; exact hyv) happ' t
  have hset : (Its js ++ [ob v]).set (Its js).length (ob v') = Its js ++ [ob v'] := by simp
  rw [hset, hpf1] at hle
  rw [hset] at hO'
  have hrun : (execOp a.eval ⟨some d, .call { callee := .builtin .append, args := #[x, y], argTypes := #[T, T] }, t, ps, af, none⟩).run P w = .ok (.value v') w' := by
    simp [execOp, resolve, invoke, builtin, hxv, hr]
  have hkl : k < js.length := (List.getElem?_eq_some_iff.1 hk).1
  have hnk : k ≠ k2 := fun e => by subst e; simp at hne
  have hob : ∀ b, ob v' b = true → ob v b = true ∨ w.heap.size ≤ b := fun b hb => by
    rcases hv' with e | e
    · exact .inl (by unfold ob at hb ⊢; rw [e] at hb; exact hb)
    · have := ob_iff.1 hb; rw [e] at this; cases this; exact .inr (Nat.le_refl _)
  let o' : Nat → Bool := fun b => (o b || ob v' b) || ob u b
  have ho' : ∀ b, o' b = true → o b = true ∨ ob u b = true ∨ w.heap.size ≤ b := fun b hb => by
    simp only [o', Bool.or_eq_true] at hb
    rcases hb with (hb | hb) | hb
    · exact .inl hb
    · exact (hob b hb).imp (fun hb => h5 b (ob_iff.1 hb)) .inr
    · exact .inr (.inl hb)
  let js' := (js.set k (Item.tab RT E v' o' (rs ++ [u]) (rows ++ [z]))).eraseIdx k2
  have hits : Its js' = ((Its js).set k o').eraseIdx k2 := by show Its ((js.set k _).eraseIdx k2) = _; rw [its_erase, its_set]; rfl
  have hpf' : ∀ b, pf F0 (Its js') b = true → pf F0 (Its js ++ [ob v']) b = true := by
    intro b hb
    rw [hits] at hb
    rw [pf_push, Bool.or_eq_true]
    rcases pf_iff.1 (pf_erase hb) with hb | ⟨i, x, hi, hx⟩
    · exact .inl (pf_iff.2 (.inl hb))
    · rw [List.getElem?_set] at hi
      by_cases hik : k = i
      · rw [if_pos hik, if_pos (by simpa using hkl)] at hi
        cases hi
        simp only [o', Bool.or_eq_true] at hx
        rcases hx with (hx | hx) | hx
        · exact .inl (pf_iff.2 (.inr ⟨k, o, its_at hk, hx⟩))
        · exact .inr hx
        · exact .inl (pf_iff.2 (.inr ⟨k2, ob u, its_at hk2, hx⟩))
      · rw [if_neg hik] at hi
        exact .inl (pf_iff.2 (.inr ⟨i, x, hi, hx⟩))
  have hle' : Mem.le (vw (pf F0 (Its js)) w) (vw (pf F0 (Its js')) w') := Mem.le_trans hle (vw_less hpf')
  have hcase : ∀ (j : Nat) (x : Item), js'[j]? = some x → x = Item.tab RT E v' o' (rs ++ [u]) (rows ++ [z]) ∨ ∃ j', j' ≠ k ∧ j' ≠ k2 ∧ js[j']? = some x := by
    intro j x hj
    have fin : ∀ j', j' ≠ k2 → (js.set k (Item.tab RT E v' o' (rs ++ [u]) (rows ++ [z])))[j']? = some x → x = Item.tab RT E v' o' (rs ++ [u]) (rows ++ [z]) ∨ ∃ j', j' ≠ k ∧ j' ≠ k2 ∧ js[j']? = some x := by
      intro j' hn hj'
      rw [List.getElem?_set] at hj'
      by_cases hik : k = j'
      · rw [if_pos hik, if_pos (by omega)] at hj'
        cases hj'; exact .inl rfl
      · rw [if_neg hik] at hj'; exact .inr ⟨j', fun e' => hik e'.symm, hn, hj'⟩
    have hj : ((js.set k (Item.tab RT E v' o' (rs ++ [u]) (rows ++ [z]))).eraseIdx k2)[j]? = some x := hj
    rw [List.getElem?_eraseIdx] at hj
    split at hj
    · exact fin j (by omega) hj
    · exact fin (j + 1) (by omega) hj
  -- the blocks, in the world behind
  have hkeep : ∀ b, b < w.heap.size → v.ownBlock ≠ some b → w'.heap[b]? = w.heap[b]? := fun b hb hn => hg.block b hb fun e => hn e.symm
  have hult : ∀ b, ob u b = true → b < w.heap.size := fun b hb => h.lt hk2 hb
  have huo : ∀ b, ob u b = true → o b = false := fun b hb => h.apart k2 k _ _ (its_at hk2) (its_at hk) (fun e => hnk e.symm) b hb
  have huv : ∀ b, ob u b = true → v.ownBlock ≠ some b := fun b hb e => by have := huo b hb; rw [h5 b e] at this; cases this
  obtain ⟨cells', hr', hl'⟩ := hO'.row
  have hcr : cells' = rs ++ [u] := by
    have : RepL (vw (pf F0 (Its js ++ [ob v'])) w') cells' ((rs ++ [u]).map Raw.mk) := by rw [List.map_append]; exact hl'
    exact repL_unraw this
  subst hcr
  unfold wpList
  simp only [Region.wanted, if_true]
  refine .inl (wp_of_ex ?_)
  unfold Ex
  rw [hrun]
  have hA' : At n (pf F0 (Its js')) ((d, Pr.is v') :: Δ) (a.put (some d) v') w' := by
    refine (h'.at_.turn hC hle' fun b hb => ?_).put (by simpa [Nat.blt_eq] using hd) rfl
    have := hpf' b hb
    rw [pf_push, Bool.or_eq_true] at this
    rcases this with h | h
    · exact Nat.lt_of_lt_of_le (h'.at_.own b h) hg.size
    · exact (own_lt hO' h).2
  refine K _ w' v' o' ⟨hA', ?_, fun j x hj => ?_, fun j x b hj hb => ?_, h.below.trans hB', h.base⟩ hle'
  · -- apart
    rw [hits]
    refine merge_apart' h.apart (its_at hk) (its_at hk2) hnk (fun b hb => h.at_.own b hb) ho'
  · rcases hcase j x hj with rfl | ⟨j', hjk, _, hj'⟩
    · refine ⟨⟨?_, fun i q r2 hq hr2 => ?_, fun i i' q q' b hq hq' hb hb' => ?_, fun i q b hq hb => ?_, fun b hb => by simp [o', ob_iff.2 hb], fun i q b hq hb => ?_⟩, fun b hb => ⟨Nat.zero_le _, ?_⟩⟩
      · have := ownsRow_to (B' := 0) hr' (fun _ _ => Nat.zero_le _)
        rw [List.length_append, List.length_map, hrl] at this
        rw [List.length_append]
        exact this
      · rw [List.getElem?_append] at hq hr2
        rw [hrl] at hq
        split at hq
        · rename_i hi
          rw [if_pos hi] at hr2
          obtain ⟨cells, hc1, hc2⟩ := h2 i q r2 hq hr2
          exact ⟨cells, ownsRow_to (ownsRow_kept hc1 fun b hb => hkeep b (h.lt hk (h6 i q b hq hb)) (h4 i q b hq hb)) (fun _ _ => Nat.zero_le _), hc2.mono hle'⟩
        · rename_i hi
          rw [if_neg hi] at hr2
          have e0 : i - rows.length = 0 := by
            cases hh : i - rows.length with
            | zero => rfl
            | succ p => rw [hh] at hq; simp at hq
          rw [e0] at hq hr2
          have hq : u = q := by simpa using hq
          have hr2 : z = r2 := by simpa using hr2
          subst hq; subst hr2
          obtain ⟨cells, hc1, hc2⟩ := hO2.row
          exact ⟨cells, ownsRow_to (ownsRow_kept hc1 fun b hb => hkeep b (hult b (ob_iff.2 hb)) (huv b (ob_iff.2 hb))) (fun _ _ => Nat.zero_le _), hc2.mono hle'⟩
      · rw [List.getElem?_append] at hq hq'
        have last : ∀ {i : Nat} {q : Value}, ¬ i < rs.length → [u][i - rs.length]? = some q → i = rs.length ∧ q = u := by
          intro i q hi hq
          cases hh : i - rs.length with
          | zero => rw [hh] at hq; exact ⟨by omega, by simpa using hq.symm⟩
          | succ p => rw [hh] at hq; simp at hq
        split at hq
        · split at hq'
          · exact h3 i i' q q' b hq hq' hb hb'
          · rename_i _ hi'
            obtain ⟨_, rfl⟩ := last hi' hq'
            have := huo b (ob_iff.2 hb')
            rw [h6 i q b hq hb] at this; cases this
        · rename_i hi
          obtain ⟨e1, rfl⟩ := last hi hq
          split at hq'
          · have := huo b (ob_iff.2 hb)
            rw [h6 i' q' b hq' hb'] at this; cases this
          · rename_i hi'
            obtain ⟨e2, _⟩ := last hi' hq'
            omega
      · intro e
        have hbv := hob b (ob_iff.2 e)
        rw [List.getElem?_append] at hq
        split at hq
        · rcases hbv with hbv | hbv
          · exact h4 i q b hq hb (ob_iff.1 hbv)
          · have := h.lt hk (h6 i q b hq hb); omega
        · have hqu : q = u := by
            cases hh : i - rs.length with
            | zero => rw [hh] at hq; simpa using hq.symm
            | succ p => rw [hh] at hq; simp at hq
          subst hqu
          rcases hbv with hbv | hbv
          · exact huv b (ob_iff.2 hb) (ob_iff.1 hbv)
          · have := hult b (ob_iff.2 hb); omega
      · rw [List.getElem?_append] at hq
        split at hq
        · simp [o', h6 i q b hq hb]
        · have hqu : q = u := by
            cases hh : i - rs.length with
            | zero => rw [hh] at hq; simpa using hq.symm
            | succ p => rw [hh] at hq; simp at hq
          subst hqu
          simp [o', ob_iff.2 hb]
      · have hb : o' b = true := hb
        simp only [o', Bool.or_eq_true] at hb
        rcases hb with (hb | hb) | hb
        · exact Nat.lt_of_lt_of_le (h.lt hk hb) hg.size
        · exact (own_lt hO' hb).2
        · exact Nat.lt_of_lt_of_le (hult b hb) hg.size
    · exact x.kept (h.own j' x hj') hle' hg.size fun b hb => hkeep b (h.lt hj' hb) fun e => by
        have := h.apart j' k _ _ (its_at hj') (its_at hk) hjk b hb
        have h5' : o b = true := h5 b e
        have : o b = false := this
        rw [h5'] at this; cases this
  · rcases hcase j x hj with rfl | ⟨j', _, _, hj'⟩
    · rcases ho' b hb with h1 | h1 | h1
      · exact h.low k _ b hk h1
      · exact h.low k2 _ b hk2 h1
      · exact Nat.le_trans h.below.size h1
    · exact h.low j' x b hj' hb
end
end Go.Proofs.Ytkbilbeaedocjaa.Wh
