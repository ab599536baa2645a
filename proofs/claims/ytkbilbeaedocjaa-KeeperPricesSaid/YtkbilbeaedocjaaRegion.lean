/-
  What is proved: a region whose operations make memory but change none may be walked in the order of its text, whatever order is drawn.
-/
import Derived.Test.YtkbilbeaedocjaaCore
namespace Go.Proofs.Ytkbilbeaedocjaa.Wh
open Go Go.RowKit

/-! ### which operations must stand ahead of which -/
def mask1 (acc : List Nat) (o : Oper) : Nat := o.after.toList.foldl (fun s e => if Region.binds .any e then s ||| 2 ^ e.on ||| acc.getD e.on 0 else s) 0
def masksFrom : List Oper → List Nat → List Nat
  | [], acc => acc
  | o :: r, acc => masksFrom r (acc ++ [mask1 acc o])
theorem mask_fold (acc : List Nat) (i : Nat) : ∀ (l : List Edge) (s : Nat), (l.foldl (fun s e => if Region.binds .any e then s ||| 2 ^ e.on ||| acc.getD e.on 0 else s) s).testBit i = true →
    s.testBit i = true ∨ ∃ e ∈ l, Region.binds .any e = true ∧ (e.on = i ∨ (acc.getD e.on 0).testBit i = true)
  | [], s, h => .inl h
  | e :: l, s, h => by
    rw [List.foldl_cons] at h
    rcases mask_fold acc i l _ h with h1 | ⟨e', he', hb⟩
    · split at h1
      · rename_i hb
        simp only [Nat.testBit_or, Bool.or_eq_true, Nat.testBit_two_pow, decide_eq_true_eq] at h1
        rcases h1 with (h1 | h1) | h1
        · exact .inl h1
        · exact .inr ⟨e, List.mem_cons_self, hb, .inl h1⟩
        · exact .inr ⟨e, List.mem_cons_self, hb, .inr h1⟩
      · exact .inl h1
    · exact .inr ⟨e', List.mem_cons_of_mem _ he', hb⟩
theorem masks_pre : ∀ (l : List Oper) (acc : List Nat), ∃ r, masksFrom l acc = acc ++ r
  | [], acc => ⟨[], by simp [masksFrom]⟩
  | o :: l, acc => by
    obtain ⟨r, hr⟩ := masks_pre l (acc ++ [mask1 acc o])
    exact ⟨mask1 acc o :: r, by rw [masksFrom, hr, List.append_assoc]; rfl⟩
theorem masks_at : ∀ (l : List Oper) (acc : List Nat) (j : Nat) (o : Oper), l[j]? = some o →
    ∃ p, (∃ r, masksFrom l acc = p ++ mask1 p o :: r) ∧ p.length = acc.length + j
  | [], acc, j, o, h => by simp at h
  | o' :: l, acc, 0, o, h => by
    simp at h; subst h
    obtain ⟨r, hr⟩ := masks_pre l (acc ++ [mask1 acc o'])
    exact ⟨acc, ⟨r, by rw [masksFrom, hr, List.append_assoc]; rfl⟩, by simp⟩
  | o' :: l, acc, j + 1, o, h => by
    obtain ⟨p, hp, hl⟩ := masks_at l (acc ++ [mask1 acc o']) j o (by simpa using h)
    exact ⟨p, hp, by rw [hl]; simp; omega⟩
theorem masks_edge {l : List Oper} {j i : Nat} {o : Oper} (h : l[j]? = some o) (hb : ((masksFrom l []).getD j 0).testBit i = true) :
    ∃ e ∈ o.after.toList, Region.binds .any e = true ∧ (e.on = i ∨ ((masksFrom l []).getD e.on 0).testBit i = true) := by
  obtain ⟨p, ⟨r, hr⟩, hl⟩ := masks_at l [] j o h
  simp only [List.length_nil, Nat.zero_add] at hl
  have hj : (masksFrom l []).getD j 0 = mask1 p o := by
    rw [hr, List.getD_eq_getElem?_getD, ← hl]; simp
  rw [hj] at hb
  rcases mask_fold p i _ _ hb with h0 | ⟨e, he, hbi, hc⟩
  · simp at h0
  · refine ⟨e, he, hbi, hc.imp id fun hc => ?_⟩
    rw [hr]
    rw [List.getD_eq_getElem?_getD] at hc ⊢
    by_cases hlt : e.on < p.length
    · rw [List.getElem?_append_left hlt]; exact hc
    · rw [List.getElem?_eq_none (by omega)] at hc; simp at hc
def looksT (ops : Array Oper) (o : Oper) : List Nat := (looks ops o).filterMap fun | .tmp t => some t | _ => none
theorem mem_looksT {ops : Array Oper} {o : Oper} {t : Nat} (h : Operand.tmp t ∈ looks ops o) : t ∈ looksT ops o := List.mem_filterMap.2 ⟨_, h, rfl⟩
def clash (ops : Array Oper) (x y : Oper) : Bool :=
  (match x.dst with | some d => (looksT ops y).contains d || y.dst == some d | none => false) || (match y.dst with | some d => (looksT ops x).contains d | none => false)
def tempsOK (ops : Array Oper) : Bool :=
  let l := ops.toList
  let M := masksFrom l []
  (List.range l.length).all fun i => (List.range i).all fun j => !clash ops (l.getD i default) (l.getD j default) || (M.getD i 0).testBit j
theorem clash_symm (ops : Array Oper) (x y : Oper) (h : clash ops x y = true) : clash ops y x = true := by
  unfold clash at *
  simp only [Bool.or_eq_true] at *
  rcases h with h | h
  · cases hx : x.dst with
    | none => rw [hx] at h; simp at h
    | some d =>
      rw [hx] at h
      simp only [Bool.or_eq_true] at h
      rcases h with h | h
      · exact .inr (by simpa using h)
      · have hy : y.dst = some d := by simpa using h
        rw [hy]
        exact .inl (by simp)
  · cases hy : y.dst with
    | none => rw [hy] at h; simp at h
    | some d => rw [hy] at h; exact .inl (by simp only [Bool.or_eq_true]; exact .inl h)
theorem tempsOK_at {ops : Array Oper} (h : tempsOK ops = true) {i j : Nat} {x y : Oper} (hx : ops[i]? = some x) (hy : ops[j]? = some y) (hji : j < i) (hc : clash ops x y = true) :
    ((masksFrom ops.toList []).getD i 0).testBit j = true := by
  unfold tempsOK at h
  simp only [List.all_eq_true, List.mem_range] at h
  have hi : i < ops.toList.length := by have := (Array.getElem?_eq_some_iff.1 hx).1; simpa using this
  have := h i hi j hji
  have hx' : ops.toList.getD i default = x := by rw [List.getD_eq_getElem?_getD]; simp [hx]
  have hy' : ops.toList.getD j default = y := by rw [List.getD_eq_getElem?_getD]; simp [hy]
  rw [hx', hy', hc] at this
  simpa using this

/-! ### the facts behind any part of the operations -/
def gam (D : Nat → Bool) : List (Option Tmp × Pr) → Nat → List (Nat × Pr) → List (Nat × Pr)
  | [], _, Γ => Γ
  | (d, φ) :: r, k, Γ => gam D r (k + 1) (if D k then upd Γ d φ else Γ)
theorem lk_upd (Γ : List (Nat × Pr)) (d : Option Tmp) (φ : Pr) (t : Nat) : lk (upd Γ d φ) t = if d = some t then some φ else lk Γ t := by
  cases d with
  | none => simp [upd]
  | some d =>
    simp only [upd, lk]
    by_cases h : d = t
    · subst h; simp
    · have : Nat.beq d t = false := by
        cases hb : Nat.beq d t with
        | false => rfl
        | true => exact absurd (Nat.eq_of_beq_eq_true hb) h
      rw [this]; simp [h]
theorem lk_gam {D D' : Nat → Bool} {t : Nat} : ∀ (es : List (Option Tmp × Pr)) (k : Nat) (Γ Γ' : List (Nat × Pr)), lk Γ t = lk Γ' t →
    (∀ j e, es[j]? = some e → e.1 = some t → D (k + j) = D' (k + j)) → lk (gam D es k Γ) t = lk (gam D' es k Γ') t
  | [], k, Γ, Γ', h, _ => h
  | (d, φ) :: r, k, Γ, Γ', h, hD => by
    simp only [gam]
    refine lk_gam r (k + 1) _ _ ?_ fun j e he ht => by
      have := hD (j + 1) e (by simpa using he) ht
      rwa [show k + 1 + j = k + (j + 1) by omega]
    by_cases hdt : d = some t
    · have := hD 0 (d, φ) (by simp) hdt
      simp only [Nat.add_zero] at this
      rw [this]
      split
      · rw [lk_upd, lk_upd, if_pos hdt, if_pos hdt]
      · exact h
    · have e1 : ∀ (b : Bool) (Δ : List (Nat × Pr)), lk (if b = true then upd Δ d φ else Δ) t = lk Δ t := fun b Δ => by
        cases b
        · rfl
        · simp only [if_true, lk_upd, if_neg hdt]
      rw [e1, e1]; exact h
theorem gam_all {D : Nat → Bool} : ∀ (es : List (Option Tmp × Pr)) (k : Nat) (Γ : List (Nat × Pr)), (∀ j, j < es.length → D (k + j) = true) → gam D es k Γ = es.foldl (fun Γ e => upd Γ e.1 e.2) Γ
  | [], k, Γ, _ => rfl
  | (d, φ) :: r, k, Γ, h => by
    have h0 : D k = true := h 0 (by simp)
    simp only [gam, h0, if_true, List.foldl_cons]
    exact gam_all r (k + 1) _ fun j hj => by have := h (j + 1) (by simp; omega); rwa [show k + (j + 1) = k + 1 + j by omega] at this
theorem gam_none {D : Nat → Bool} : ∀ (es : List (Option Tmp × Pr)) (k : Nat) (Γ : List (Nat × Pr)), (∀ j, j < es.length → D (k + j) = false) → gam D es k Γ = Γ
  | [], k, Γ, _ => rfl
  | (d, φ) :: r, k, Γ, h => by
    have h0 : D k = false := h 0 (by simp)
    simp only [gam, h0, Bool.false_eq_true, if_false]
    exact gam_none r (k + 1) _ fun j hj => by have := h (j + 1) (by simp; omega); rwa [show k + (j + 1) = k + 1 + j by omega] at this
theorem gam_append {D : Nat → Bool} : ∀ (es es' : List (Option Tmp × Pr)) (k : Nat) (Γ : List (Nat × Pr)), gam D (es ++ es') k Γ = gam D es' (k + es.length) (gam D es k Γ)
  | [], es', k, Γ => rfl
  | (d, φ) :: r, es', k, Γ => by
    simp only [List.cons_append, gam]
    rw [gam_append r es']
    simp only [List.length_cons]
    rw [show k + 1 + r.length = k + (r.length + 1) by omega]
/-- 'SeqOK' laid open: a fact for each operation, met at the facts of the text's order. -/
theorem seq_open {P : Program} {ops : Array Oper} : ∀ {l : List Oper} {Γ Γ' : List (Nat × Pr)}, SeqOK P ops l Γ Γ' →
    ∃ es : List (Option Tmp × Pr), es.length = l.length ∧ es.foldl (fun Γ e => upd Γ e.1 e.2) Γ = Γ' ∧
      ∀ i o, l[i]? = some o → ∃ φ, es[i]? = some (o.dst, φ) ∧ StepG P ops o ((es.take i).foldl (fun Γ e => upd Γ e.1 e.2) Γ) φ
  | [], Γ, Γ', h => ⟨[], rfl, h, fun i o ho => by simp at ho⟩
  | o :: r, Γ, Γ', ⟨φ, hst, hr⟩ => by
    obtain ⟨es, hl, hf, hs⟩ := seq_open hr
    refine ⟨(o.dst, φ) :: es, by simp [hl], by simpa using hf, fun i o' ho => ?_⟩
    cases i with
    | zero => simp at ho; subst ho; exact ⟨φ, by simp, by simpa using hst⟩
    | succ i =>
      obtain ⟨ψ, h1, h2⟩ := hs i o' (by simpa using ho)
      exact ⟨ψ, by simpa using h1, by simpa using h2⟩
theorem blt_self (j : Nat) : Nat.blt j j = false := by
  cases h : Nat.blt j j with
  | false => rfl
  | true => rw [Nat.blt_eq] at h; omega
structure Inv (n : Nat) (F : Nat → Bool) (ops : Array Oper) (es : List (Option Tmp × Pr)) (Γ : List (Nat × Pr)) (listed : Array Bool) (a : Act) (w : World) : Prop where
  size : listed.size = ops.size
  closed : ∀ j, listed.getD j false = true → ∀ i, ((masksFrom ops.toList []).getD j 0).testBit i = true → listed.getD i false = true
  at_ : At n F (gam (fun k => listed.getD k false) es 0 Γ) a w
theorem getD_set {l : Array Bool} {i k : Nat} (hi : i < l.size) : (l.setIfInBounds i true).getD k false = (if i = k then true else l.getD k false) := by
  simp only [Array.getD_eq_getD_getElem?, Array.getElem?_setIfInBounds]
  split
  · rename_i h; subst h; simp [hi]
  · rfl
theorem wpAny_inv {P : Program} {ops : Array Oper} {Q : Exit → Act → World → Prop} {n : Nat} {F : Nat → Bool} {es : List (Option Tmp × Pr)} {Γ : List (Nat × Pr)} (hlen : es.length = ops.size)
    (hst : ∀ i o, ops[i]? = some o → ∃ φ, es[i]? = some (o.dst, φ) ∧ StepG P ops o ((es.take i).foldl (fun Γ e => upd Γ e.1 e.2) Γ) φ)
    (ht : tempsOK ops = true) (hd : dstsIn n ops.toList = true) (w0 : World) (hwf : ∀ i o, ops[i]? = some o → ∀ e ∈ o.after.toList, Region.binds .any e = true → e.on < i)
    (k : ∀ a w, Below w0.heap.size w0 w → At n F (es.foldl (fun Γ e => upd Γ e.1 e.2) Γ) a w → Q .normal a w) :
    ∀ (fuel : Nat) (listed : Array Bool) (a : Act) (w : World), Below w0.heap.size w0 w → Inv n F ops es Γ listed a w → (∃ m, listed.toList.count false = m ∧ m ≤ fuel) →
      wpAny P .any ops Q fuel listed a w := by
  -- if nothing is ready, all is done
  have hready : ∀ listed : Array Bool, listed.size = ops.size → Region.ready .any ops listed = [] → ∀ i, i < ops.size → listed.getD i false = true := by
    intro listed hs hr i
    induction i using Nat.strongRecOn with
    | _ i ih =>
      intro hi
      cases hb : listed.getD i false with
      | true => rfl
      | false =>
        exfalso
        have hb' : listed.getD i true = false := by
          rw [Array.getD_eq_getD_getElem?] at hb ⊢
          rw [Array.getElem?_eq_getElem (by omega)] at hb ⊢
          simpa using hb
        have : i ∈ Region.ready .any ops listed := by
          unfold Region.ready
          rw [List.mem_filter]
          refine ⟨List.mem_range.2 hi, ?_⟩
          rw [hb', Array.getElem?_eq_getElem hi]
          simp only [Bool.not_false, Option.map_some, Option.getD_some, Bool.true_and]
          rw [Array.all_eq_true']
          intro e he
          cases hbd : Region.binds .any e with
          | false => simp
          | true =>
            have hlt := hwf i ops[i] (Array.getElem?_eq_getElem hi) e (by simpa using he) hbd
            simp [ih e.on hlt (by omega)]
        rw [hr] at this
        cases this
  have hfin : ∀ (listed : Array Bool) (a : Act) (w : World), Below w0.heap.size w0 w → Inv n F ops es Γ listed a w → Region.ready .any ops listed = [] → Q .normal a w := by
    intro listed a w hb hinv hr
    refine k a w hb ?_
    have := hinv.at_
    rwa [gam_all es 0 Γ (fun j hj => by simpa using hready listed hinv.size hr j (by omega))] at this
  intro fuel
  induction fuel with
  | zero =>
    intro listed a w hb hinv ⟨m, hm, hle⟩
    have h0 : listed.toList.count false = 0 := by omega
    have hall : ∀ i, listed.getD i true = true := by
      intro i
      cases hq : listed.getD i true with
      | true => rfl
      | false =>
        have : false ∈ listed.toList := by
          rw [Array.getD_eq_getD_getElem?] at hq
          cases hl : listed[i]? with
          | none => rw [hl] at hq; simp at hq
          | some b => rw [hl] at hq; simp at hq; subst hq; exact Array.mem_toList_iff.2 (Array.mem_of_getElem? hl)
        exact absurd (List.count_pos_iff.2 this) (by omega)
    have hr : Region.ready .any ops listed = [] := by
      unfold Region.ready
      rw [List.filter_eq_nil_iff]
      intro i _
      simp [hall i]
    exact ⟨hr, hfin listed a w hb hinv hr⟩
  | succ fuel ih =>
    intro listed a w hb hinv ⟨m, hm, hle⟩
    refine ⟨fun hr => hfin listed a w hb hinv hr, fun i hi => ?_⟩
    unfold Region.ready at hi
    rw [List.mem_filter, List.mem_range] at hi
    obtain ⟨hilt, hi⟩ := hi
    rw [Bool.and_eq_true] at hi
    obtain ⟨hun, hpre⟩ := hi
    have hun' : listed[i]? = some false := by
      rw [Array.getD_eq_getD_getElem?] at hun
      have hl : i < listed.size := by rw [hinv.size]; exact hilt
      rw [Array.getElem?_eq_getElem hl] at hun ⊢
      simpa using hun
    have hunf : listed.getD i false = false := by rw [Array.getD_eq_getD_getElem?, hun']; rfl
    have ho : ops[i]? = some ops[i] := Array.getElem?_eq_getElem hilt
    generalize ops[i] = o at ho
    rw [ho] at hpre
    simp only [Option.map_some, Option.getD_some, Array.all_eq_true'] at hpre
    obtain ⟨φ, he, hsg⟩ := hst i o ho
    -- what is ordered
    have hbefore : ∀ (j : Nat) (y : Oper), ops[j]? = some y → clash ops o y = true → (j < i → listed.getD j false = true) ∧ (i < j → listed.getD j false = false) := by
      intro j y hy hc
      refine ⟨fun hji => ?_, fun hij => ?_⟩
      · have hbit := tempsOK_at ht ho hy hji hc
        obtain ⟨e, hea, heb, hec⟩ := masks_edge (l := ops.toList) (by simpa using ho) hbit
        have hl : listed.getD e.on false = true := by
          have := hpre e (by simpa using hea)
          rw [heb] at this
          simpa using this
        rcases hec with rfl | hec
        · exact hl
        · exact hinv.closed _ hl _ hec
      · cases hq : listed.getD j false with
        | false => rfl
        | true =>
          have hbit := tempsOK_at ht hy ho hij (clash_symm ops _ _ hc)
          have := hinv.closed j hq i hbit
          rw [hunf] at this
          cases this
    have hes : ∀ (j : Nat) (e : Option Tmp × Pr), es[j]? = some e → ∃ y : Oper, ops[j]? = some y ∧ e.1 = y.dst := by
      intro j e hej
      have hj : j < ops.size := by rw [← hlen]; exact (List.getElem?_eq_some_iff.1 hej).1
      obtain ⟨ψ, h1, _⟩ := hst j ops[j] (Array.getElem?_eq_getElem hj)
      rw [h1] at hej
      exact ⟨ops[j], Array.getElem?_eq_getElem hj, by cases hej; rfl⟩
    have hgamlt : gam (fun k => Nat.blt k i) es 0 Γ = (es.take i).foldl (fun Γ e => upd Γ e.1 e.2) Γ := by
      conv => lhs; rw [← List.take_append_drop i es, gam_append]
      rw [gam_none _ _ _ (fun j _ => by
        rw [List.length_take, Nat.min_eq_left (by omega)]
        cases hq : Nat.blt (0 + i + j) i with
        | false => rfl
        | true => rw [Nat.blt_eq] at hq; omega)]
      exact gam_all _ _ _ fun j hj => by rw [Nat.blt_eq]; simp at hj ⊢; omega
    have hmet : Met ((es.take i).foldl (fun Γ e => upd Γ e.1 e.2) Γ) (looks ops o) (v2 F w) a := by
      intro t ht' ψ hψ
      refine hinv.at_.sat t ψ ?_
      rw [← hψ, ← hgamlt]
      refine lk_gam es 0 Γ Γ rfl fun j e hej hdt => ?_
      obtain ⟨y, hy, hye⟩ := hes j e hej
      simp only [Nat.zero_add]
      by_cases hji : j = i
      · subst hji; rw [hunf]; exact (blt_self j).symm
      · have hc : clash ops o y = true := by
          unfold clash
          rw [← hye, hdt]
          simp [mem_looksT ht']
        rcases Nat.lt_or_gt_of_ne hji with hlt | hgt
        · rw [(hbefore j y hy hc).1 hlt]; exact (Nat.blt_eq ▸ hlt : Nat.blt j i = true).symm
        · rw [(hbefore j y hy hc).2 hgt]
          cases hq : Nat.blt j i with
          | false => rfl
          | true => rw [Nat.blt_eq] at hq; omega
    have hdst : ∀ k, o.dst = some k → k < n := by
      intro d hdd
      unfold dstsIn at hd
      rw [List.all_eq_true] at hd
      have := hd o (by simpa using Array.mem_of_getElem? ho)
      rw [hdd] at this
      simpa [Nat.blt_eq] using this
    have hnext : ∀ v w', Below w.heap.size w w' → φ.p (v2 F w') v → Inv n F ops es Γ (listed.setIfInBounds i true) (a.put o.dst v) w' := by
      intro v w' hbw hv
      have hil : i < listed.size := by rw [hinv.size]; exact hilt
      have hold := hinv.at_.step (φ := φ) (d := o.dst) (v := v) hbw hdst hv
      refine ⟨by simp [hinv.size], fun j hj q hq => ?_, ⟨hold.size, hold.defers, hold.own, fun t ψ hψ => ?_⟩⟩
      · rw [getD_set hil] at hj ⊢
        split
        · rfl
        · split at hj
          · rename_i hij
            subst hij
            obtain ⟨e, hea, heb, hec⟩ := masks_edge (l := ops.toList) (by simpa using ho) hq
            have hl : listed.getD e.on false = true := by
              have := hpre e (by simpa using hea)
              rw [heb] at this
              simpa using this
            rcases hec with rfl | hec
            · exact hl
            · exact hinv.closed _ hl _ hec
          · exact hinv.closed j hj q hq
      · refine hold.sat t ψ ?_
        rw [← hψ]
        by_cases hdt : o.dst = some t
        · rw [lk_upd, if_pos hdt]
          -- the slot that was written
          have e1 : gam (fun k => Nat.ble k i) es 0 Γ = upd ((es.take i).foldl (fun Γ e => upd Γ e.1 e.2) Γ) o.dst φ := by
            have hsplit : es = es.take i ++ (o.dst, φ) :: es.drop (i + 1) := by
              have h1 := List.take_append_drop i es
              have h2 : es.drop i = (o.dst, φ) :: es.drop (i + 1) := by
                obtain ⟨hlt, hh⟩ := List.getElem?_eq_some_iff.1 he
                rw [List.drop_eq_getElem_cons hlt, hh]
              rw [h2] at h1
              exact h1.symm
            conv => lhs; rw [hsplit, gam_append]
            have hle : (es.take i).length = i := by rw [List.length_take]; omega
            simp only [gam, hle, Nat.zero_add]
            rw [if_pos (by simp)]
            rw [gam_none _ _ _ (fun j _ => by
              cases hq : Nat.ble (i + 1 + j) i with
              | false => rfl
              | true => rw [Nat.ble_eq] at hq; omega)]
            congr 1
            exact gam_all _ _ _ fun j hj => by rw [Nat.ble_eq]; simp at hj ⊢; omega
          have e2 : lk (gam (fun k => Nat.ble k i) es 0 Γ) t = some φ := by rw [e1, lk_upd, if_pos hdt]
          rw [← e2]
          refine lk_gam es 0 Γ Γ rfl fun j e hej hdt' => ?_
          obtain ⟨y, hy, hye⟩ := hes j e hej
          simp only [Nat.zero_add]
          rw [getD_set hil]
          by_cases hji : i = j
          · subst hji; simp
          · rw [if_neg hji]
            have hc : clash ops o y = true := by
              unfold clash
              rw [hdt, ← hye, hdt']
              simp
            rcases Nat.lt_or_gt_of_ne hji with hgt | hlt
            · rw [(hbefore j y hy hc).2 hgt]
              cases hq : Nat.ble j i with
              | false => rfl
              | true => rw [Nat.ble_eq] at hq; omega
            · rw [(hbefore j y hy hc).1 hlt]; exact Nat.ble_eq_true_of_le (Nat.le_of_lt hlt)
        · rw [lk_upd, if_neg hdt]
          refine lk_gam es 0 Γ Γ rfl fun j e hej hdt' => ?_
          obtain ⟨y, hy, hye⟩ := hes j e hej
          simp only [Nat.zero_add]
          rw [getD_set hil]
          by_cases hji : i = j
          · subst hji
            rw [ho] at hy
            cases hy
            rw [hye] at hdt'
            exact absurd hdt' hdt
          · rw [if_neg hji]
    have hcount : ∃ m', (listed.setIfInBounds i true).toList.count false = m' ∧ m' ≤ fuel := by
      refine ⟨_, rfl, ?_⟩
      have hil : i < listed.toList.length := by simp [hinv.size, hilt]
      have hcs : (listed.setIfInBounds i true).toList = listed.toList.set i true := by simp
      rw [hcs]
      have := List.count_set (a := true) (b := false) (l := listed.toList) (i := i) hil
      rw [this]
      have hv : listed.toList[i] = false := by
        have := hun'
        rw [Array.getElem?_eq_getElem (by simpa using hil)] at this
        simpa using this
      have hpos : 0 < listed.toList.count false := List.count_pos_iff.2 (Array.mem_toList_iff.2 (Array.mem_of_getElem? hun'))
      have z1 : (if (listed.toList[i] == false) = true then 1 else 0) = 1 := by rw [hv]; rfl
      have z2 : (if (true == false) = true then 1 else 0) = 0 := rfl
      rw [z1, z2]
      omega
    unfold wpOp
    rw [ho]
    simp only []
    have hx := hsg.2 F w a hinv.at_.own hmet
    split
    · rename_i hw
      rw [if_pos hw] at hx
      exact .inl (wp_of_ex (hx.mono fun v w' hk => ih _ _ _ (below_trans' hb hk.1) (hnext v w' hk.1 hk.2) hcount))
    · rename_i hw
      rw [if_neg hw] at hx
      exact ih _ _ _ hb (hnext undef w (Below.refl _ _) hx) hcount
def edgesOK (ops : Array Oper) : Bool := (List.range ops.size).all fun i => ((ops[i]?).map fun o => o.after.all fun e => !Region.binds .any e || Nat.blt e.on i).getD true
def regionOK (n : Nat) (ops : Array Oper) : Bool := tempsOK ops && edgesOK ops && dstsIn n ops.toList
/-- **A region of operations that change nothing that was there: by the order of its text, whatever order is drawn.** -/
theorem wp_grow {P : Program} (hm : P.follows .mixedOrders = true) {id n : Nat} {ops : Array Oper} {draw : Bool} {Q : Exit → Act → World → Prop} {F : Nat → Bool} {Γ Γ' : List (Nat × Pr)} {a : Act} {w : World}
    (hok : regionOK n ops = true) (hs : SeqOK P ops ops.toList Γ Γ') (ha : At n F Γ a w) (k : ∀ a' w', Below w.heap.size w w' → At n F Γ' a' w' → Q .normal a' w') : (Code.region id ops draw).wp P Q a w := by
  unfold regionOK at hok
  rw [Bool.and_eq_true, Bool.and_eq_true] at hok
  obtain ⟨⟨ht, he⟩, hd⟩ := hok
  cases draw with
  | false =>
    refine wp_region_list ?_
    have := wpList_seq (P := P) (ops := ops) (Q := Q) (rest := []) hs hd ha (fun a' w' hb ha' => by unfold wpList; exact k a' w' hb ha')
    simpa using this
  | true =>
    refine wp_region_any hm ?_
    obtain ⟨es, hl, hf, hst⟩ := seq_open hs
    subst hf
    have hwf : ∀ i o, ops[i]? = some o → ∀ e ∈ o.after.toList, Region.binds .any e = true → e.on < i := by
      intro i o ho e hea heb
      unfold edgesOK at he
      rw [List.all_eq_true] at he
      have := he i (List.mem_range.2 (Array.getElem?_eq_some_iff.1 ho).1)
      rw [ho] at this
      simp only [Option.map_some, Option.getD_some, Array.all_eq_true'] at this
      have := this e (by simpa using hea)
      rw [heb] at this
      simpa [Nat.blt_eq] using this
    have h0 : Below w.heap.size w { w with drawn := w.drawn + 1 } := (Below.refl _ _).drew
    refine wpAny_inv (n := n) (F := F) (es := es) (Γ := Γ) (by simpa using hl) (fun i o ho => hst i o (by simpa using ho)) ht hd w hwf k ops.size _ a _ h0 ⟨by simp, fun j hj => ?_, ?_⟩ ⟨_, rfl, ?_⟩
    · simp [Array.getD_eq_getD_getElem?, Array.getElem?_replicate] at hj
      split at hj <;> simp at hj
    · rw [gam_none es 0 Γ (fun j _ => by simp [Array.getD_eq_getD_getElem?, Array.getElem?_replicate]; split <;> rfl)]
      exact ⟨ha.size, ha.defers, ha.own, ha.sat⟩
    · exact Nat.le_trans (List.count_le_length) (by simp)
end Go.Proofs.Ytkbilbeaedocjaa.Wh
