/-
  What is proved: regions some of whose operations write, one behind the other in one order; the others look only, ahead of them or at any time.
-/
import Derived.Test.YtkbilbeaedocjaaTail
import Derived.Test.YtkbilbeaedocjaaOps
import Derived.OrdersHeld
namespace Go.Proofs.Ytkbilbeaedocjaa.Wh
open Go Go.RowKit

/-- An operation that yields the same wherever that stands which is protected. -/
def StepY (P : Program) (op : Op) (ty : TypeId) (Γ : List (Nat × Pr)) (φ : Pr) : Prop :=
  ∀ (c : Mem2) (a : Act), Met Γ op.operands.toList c a → ∃ v, φ.p c v ∧ ∀ w, Mem.le c.c w.cell? → (execOp a.eval (plain op ty)).run P w = .ok (.value v) w
theorem StepY.step {P : Program} {op : Op} {ty : TypeId} {Γ : List (Nat × Pr)} {φ : Pr} (h : StepY P op ty Γ φ) : StepP P op ty Γ φ :=
  step_pure fun c w a hc hm => by obtain ⟨v, h1, h2⟩ := h c a hm; exact ⟨v, h2 w hc.1, h1⟩
def StepYo (P : Program) (o : Oper) (Γ : List (Nat × Pr)) (φ : Pr) : Prop := o.guard = none ∧ (∀ cs b, o.op ≠ .select cs b) ∧ StepY P o.op o.type Γ φ
theorem sy {P : Program} {d : Option Tmp} {op : Op} {ty : TypeId} {ps : String} {af : Array Edge} {Γ : List (Nat × Pr)} {φ : Pr} (h : StepY P op ty Γ φ) (hs : ∀ cs b, op ≠ .select cs b := by intros; nofun) : StepYo P ⟨d, op, ty, ps, af, none⟩ Γ φ := ⟨rfl, hs, h⟩
/-- Kinds: 0: looks, ahead of all that write; 1: looks, at any time; 2: writes. -/
def SeqF (P : Program) (ops : Array Oper) : List (Oper × Nat) → List (Nat × Pr) → (List (Nat × Pr) → Prop) → Prop
  | [], Γ, K => K Γ
  | (o, 0) :: r, Γ, K => ∃ φ, StepG P ops o Γ φ ∧ SeqF P ops r (upd Γ o.dst φ) K
  | (o, 1) :: r, Γ, K => ∃ φ, StepYo P o Γ φ ∧ SeqF P ops r (upd Γ o.dst φ) K
  | (_, _) :: r, Γ, K => SeqF P ops r Γ K
theorem sfA {P : Program} {Γ : List (Nat × Pr)} {ops : Array Oper} {d : Nat} {op : Op} {t : TypeId} {ps : String} {af : Array Edge} {g : Option (Nat × Bool)} {r : List (Oper × Nat)} {K : List (Nat × Pr) → Prop} {φ : Pr}
    (h : StepG P ops ⟨some d, op, t, ps, af, g⟩ Γ φ) (k : SeqF P ops r ((d, φ) :: Γ) K) : SeqF P ops ((⟨some d, op, t, ps, af, g⟩, 0) :: r) Γ K := ⟨φ, h, k⟩
theorem sfF {P : Program} {Γ : List (Nat × Pr)} {ops : Array Oper} {d : Nat} {op : Op} {t : TypeId} {ps : String} {af : Array Edge} {g : Option (Nat × Bool)} {r : List (Oper × Nat)} {K : List (Nat × Pr) → Prop} {φ : Pr}
    (h : StepYo P ⟨some d, op, t, ps, af, g⟩ Γ φ) (k : SeqF P ops r ((d, φ) :: Γ) K) : SeqF P ops ((⟨some d, op, t, ps, af, g⟩, 1) :: r) Γ K := ⟨φ, h, k⟩
theorem sfT {P : Program} {Γ : List (Nat × Pr)} {ops : Array Oper} {o : Oper} {r : List (Oper × Nat)} {K : List (Nat × Pr) → Prop} (k : SeqF P ops r Γ K) : SeqF P ops ((o, 2) :: r) Γ K := k
theorem sfN {P : Program} {Γ : List (Nat × Pr)} {ops : Array Oper} {K : List (Nat × Pr) → Prop} (k : K Γ) : SeqF P ops [] Γ K := k
theorem stepYo_step {P : Program} {ops : Array Oper} {o : Oper} {Γ : List (Nat × Pr)} {φ : Pr} (h : StepYo P o Γ φ) : StepG P ops o Γ φ := by
  obtain ⟨d, op, t, ps, af, g⟩ := o
  obtain ⟨hg, hs, hy⟩ := h
  have hg : g = none := hg
  subst hg
  exact sg hy.step hs
theorem seqF_open {P : Program} {ops : Array Oper} {K : List (Nat × Pr) → Prop} : ∀ {l : List (Oper × Nat)} {Γ : List (Nat × Pr)}, SeqF P ops l Γ K →
    ∃ es : List (Option Tmp × Pr), es.length = l.length ∧ K (es.foldl (fun Γ e => upd Γ e.1 e.2) Γ) ∧
      ∀ i o k, l[i]? = some (o, k) → (1 < k ∧ es[i]? = some (none, Pr.top)) ∨ (k < 2 ∧ ∃ φ, es[i]? = some (o.dst, φ) ∧ StepG P ops o ((es.take i).foldl (fun Γ e => upd Γ e.1 e.2) Γ) φ ∧ (k = 1 → StepYo P o ((es.take i).foldl (fun Γ e => upd Γ e.1 e.2) Γ) φ))
  | [], Γ, h => ⟨[], rfl, h, fun i o k e => by simp at e⟩
  | (o, 0) :: r, Γ, ⟨φ, h, k⟩ => by
    obtain ⟨es, h1, h2, h3⟩ := seqF_open k
    refine ⟨(o.dst, φ) :: es, by simp [h1], h2, fun i o' k' e => ?_⟩
    cases i with
    | zero => simp at e; obtain ⟨rfl, rfl⟩ := e; exact .inr ⟨by omega, φ, rfl, h, fun hh => by omega⟩
    | succ i => simpa using h3 i o' k' (by simpa using e)
  | (o, 1) :: r, Γ, ⟨φ, h, k⟩ => by
    obtain ⟨es, h1, h2, h3⟩ := seqF_open k
    refine ⟨(o.dst, φ) :: es, by simp [h1], h2, fun i o' k' e => ?_⟩
    cases i with
    | zero => simp at e; obtain ⟨rfl, rfl⟩ := e; exact .inr ⟨by omega, φ, rfl, stepYo_step h, fun _ => h⟩
    | succ i => simpa using h3 i o' k' (by simpa using e)
  | (o, q + 2) :: r, Γ, k => by
    obtain ⟨es, h1, h2, h3⟩ := seqF_open (show SeqF P ops r Γ K from k)
    refine ⟨(none, Pr.top) :: es, by simp [h1], h2, fun i o' k' e => ?_⟩
    cases i with
    | zero => simp at e; obtain ⟨rfl, rfl⟩ := e; exact .inl ⟨by omega, rfl⟩
    | succ i => simpa [show upd Γ none Pr.top = Γ from rfl] using h3 i o' k' (by simpa using e)

section
variable {P : Program} {ops : Array Oper} {n : Nat} {F : Nat → Bool} {es : List (Option Tmp × Pr)} {Γ : List (Nat × Pr)}
/-- What is listed is ordered as the text, as to each operation that may come up. -/
theorem inv_before {listed : Array Bool} {a : Act} {w : World} (ht : tempsOK ops = true) (hinv : Inv n F ops es Γ listed a w) {i : Nat} {o : Oper} (ho : ops[i]? = some o) (hunf : listed.getD i false = false)
    (hpre : ∀ e ∈ o.after.toList, Region.binds .any e = true → listed.getD e.on false = true) : ∀ (j : Nat) (y : Oper), ops[j]? = some y → clash ops o y = true → (j < i → listed.getD j false = true) ∧ (i < j → listed.getD j false = false) := by
  intro j y hy hc
  refine ⟨fun hji => ?_, fun hij => ?_⟩
  · have hbit := tempsOK_at ht ho hy hji hc
    obtain ⟨e, hea, heb, hec⟩ := masks_edge (l := ops.toList) (by simpa using ho) hbit
    have hl := hpre e hea heb
    rcases hec with rfl | hec
    · exact hl
    · exact hinv.closed _ hl _ hec
  · cases hq : listed.getD j false with
    | false => rfl
    | true =>
      have hbit := tempsOK_at ht hy ho hij (clash_symm ops _ _ hc)
      have := hinv.closed j hq i hbit
      rw [hunf] at this
      cases this
theorem inv_met {listed : Array Bool} {a : Act} {w : World} (hlen : es.length = ops.size) (hes : ∀ (j : Nat) (e : Option Tmp × Pr), es[j]? = some e → ∃ y : Oper, ops[j]? = some y ∧ (e.1 = y.dst ∨ e.1 = none)) (ht : tempsOK ops = true)
    (hinv : Inv n F ops es Γ listed a w) {i : Nat} {o : Oper} (ho : ops[i]? = some o) (hunf : listed.getD i false = false) (hpre : ∀ e ∈ o.after.toList, Region.binds .any e = true → listed.getD e.on false = true) :
    Met ((es.take i).foldl (fun Γ e => upd Γ e.1 e.2) Γ) (looks ops o) (v2 F w) a := by
  have hilt : i < ops.size := (Array.getElem?_eq_some_iff.1 ho).1
  have hbefore := inv_before ht hinv ho hunf hpre
  have hgamlt : gam (fun k => Nat.blt k i) es 0 Γ = (es.take i).foldl (fun Γ e => upd Γ e.1 e.2) Γ := by
    conv => lhs; rw [← List.take_append_drop i es, gam_append]
    rw [gam_none _ _ _ (fun j _ => by
      rw [List.length_take, Nat.min_eq_left (by omega)]
      cases hq : Nat.blt (0 + i + j) i with
      | false => rfl
      | true => rw [Nat.blt_eq] at hq; omega)]
    exact gam_all _ _ _ fun j hj => by rw [Nat.blt_eq]; simp at hj ⊢; omega
  intro t ht' ψ hψ
  refine hinv.at_.sat t ψ ?_
  rw [← hψ, ← hgamlt]
  refine lk_gam es 0 Γ Γ rfl fun j e hej hdt => ?_
  obtain ⟨y, hy, hye⟩ := hes j e hej
  have hye : e.1 = y.dst := hye.resolve_right (by rw [hdt]; nofun)
  simp only [Nat.zero_add]
  by_cases hji : j = i
  · subst hji; rw [hunf]; exact (blt_self j).symm
  · have hc : clash ops o y = true := by
      unfold clash
      rw [← hye, hdt]
      simp [mem_looksT ht']
    rcases Nat.lt_or_gt_of_ne hji with hlt | hgt
    · rw [(hbefore j y hy hc).1 hlt]; exact (Nat.blt_eq ▸ hlt : Nat.blt j i = true).symm
    · rw [(hbefore j y hy hc).2 hgt]
      cases hq : Nat.blt j i with
      | false => rfl
      | true => rw [Nat.blt_eq] at hq; omega
theorem inv_next {listed : Array Bool} {a : Act} {w : World} (hlen : es.length = ops.size) (hes : ∀ (j : Nat) (e : Option Tmp × Pr), es[j]? = some e → ∃ y : Oper, ops[j]? = some y ∧ (e.1 = y.dst ∨ e.1 = none)) (ht : tempsOK ops = true)
    (hd : dstsIn n ops.toList = true) (hinv : Inv n F ops es Γ listed a w) {i : Nat} {o : Oper} {φ : Pr} (ho : ops[i]? = some o) (he : es[i]? = some (o.dst, φ)) (hunf : listed.getD i false = false)
    (hpre : ∀ e ∈ o.after.toList, Region.binds .any e = true → listed.getD e.on false = true) {v : Value} {w' : World} (hbw : Below w.heap.size w w') (hv : φ.p (v2 F w') v) : Inv n F ops es Γ (listed.setIfInBounds i true) (a.put o.dst v) w' := by
  have hilt : i < ops.size := (Array.getElem?_eq_some_iff.1 ho).1
  have hbefore := inv_before ht hinv ho hunf hpre
  have hdst : ∀ k, o.dst = some k → k < n := by
    intro d hdd
    unfold dstsIn at hd
    rw [List.all_eq_true] at hd
    have := hd o (by simpa using Array.mem_of_getElem? ho)
    rw [hdd] at this
    simpa [Nat.blt_eq] using this
  have hil : i < listed.size := by rw [hinv.size]; exact hilt
  have hold := hinv.at_.step (φ := φ) (d := o.dst) (v := v) hbw hdst hv
  refine ⟨by simp [hinv.size], fun j hj q hq => ?_, ⟨hold.size, hold.defers, hold.own, fun t ψ hψ => ?_⟩⟩
  · rw [getD_set hil] at hj ⊢
    split
    · rfl
    · split at hj
      · rename_i hij
        subst hij
        obtain ⟨e, hea, heb, hec⟩ := masks_edge (l := ops.toList) (by simpa using ho) hq
        have hl := hpre e hea heb
        rcases hec with rfl | hec
        · exact hl
        · exact hinv.closed _ hl _ hec
      · exact hinv.closed j hj q hq
  · refine hold.sat t ψ ?_
    rw [← hψ]
    by_cases hdt : o.dst = some t
    · rw [lk_upd, if_pos hdt]
      have e1 : gam (fun k => Nat.ble k i) es 0 Γ = upd ((es.take i).foldl (fun Γ e => upd Γ e.1 e.2) Γ) o.dst φ := by
        have hsplit : es = es.take i ++ (o.dst, φ) :: es.drop (i + 1) := by
          have h1 := List.take_append_drop i es
          have h2 : es.drop i = (o.dst, φ) :: es.drop (i + 1) := by
            obtain ⟨hlt, hh⟩ := List.getElem?_eq_some_iff.1 he
            rw [List.drop_eq_getElem_cons hlt, hh]
          rw [h2] at h1
          exact h1.symm
        conv => lhs; rw [hsplit, gam_append]
        have hle : (es.take i).length = i := by rw [List.length_take]; omega
        simp only [gam, hle, Nat.zero_add]
        rw [if_pos (by simp)]
        rw [gam_none _ _ _ (fun j _ => by
          cases hq : Nat.ble (i + 1 + j) i with
          | false => rfl
          | true => rw [Nat.ble_eq] at hq; omega)]
        congr 1
        exact gam_all _ _ _ fun j hj => by rw [Nat.ble_eq]; simp at hj ⊢; omega
      have e2 : lk (gam (fun k => Nat.ble k i) es 0 Γ) t = some φ := by rw [e1, lk_upd, if_pos hdt]
      rw [← e2]
      refine lk_gam es 0 Γ Γ rfl fun j e hej hdt' => ?_
      obtain ⟨y, hy, hye⟩ := hes j e hej
      have hye : e.1 = y.dst := hye.resolve_right (by rw [hdt']; nofun)
      simp only [Nat.zero_add]
      rw [getD_set hil]
      by_cases hji : i = j
      · subst hji; simp
      · rw [if_neg hji]
        have hc : clash ops o y = true := by
          unfold clash
          rw [hdt, ← hye, hdt']
          simp
        rcases Nat.lt_or_gt_of_ne hji with hgt | hlt
        · rw [(hbefore j y hy hc).2 hgt]
          cases hq : Nat.ble j i with
          | false => rfl
          | true => rw [Nat.ble_eq] at hq; omega
        · rw [(hbefore j y hy hc).1 hlt]; exact Nat.ble_eq_true_of_le (Nat.le_of_lt hlt)
    · rw [lk_upd, if_neg hdt]
      refine lk_gam es 0 Γ Γ rfl fun j e hej hdt' => ?_
      obtain ⟨y, hy, hye⟩ := hes j e hej
      have hye : e.1 = y.dst := hye.resolve_right (by rw [hdt']; nofun)
      simp only [Nat.zero_add]
      rw [getD_set hil]
      by_cases hji : i = j
      · subst hji
        rw [ho] at hy
        cases hy
        rw [hye] at hdt'
        exact absurd hdt' hdt
      · rw [if_neg hji]
theorem count_less {listed : Array Bool} {i m : Nat} (hs : i < listed.size) (hun : listed.getD i false = false) (h : listed.toList.count false ≤ m + 1) : (listed.setIfInBounds i true).toList.count false ≤ m := by
  have hil : i < listed.toList.length := by simpa using hs
  have hcs : (listed.setIfInBounds i true).toList = listed.toList.set i true := by simp
  rw [hcs, List.count_set (a := true) (b := false) (l := listed.toList) (i := i) hil]
  have hun' : listed[i]? = some false := by
    rw [Array.getD_eq_getD_getElem?] at hun
    rw [Array.getElem?_eq_getElem hs] at hun ⊢
    simpa using hun
  have hv : listed.toList[i] = false := by
    have := hun'
    rw [Array.getElem?_eq_getElem hs] at this
    simpa using this
  have hpos : 0 < listed.toList.count false := List.count_pos_iff.2 (Array.mem_toList_iff.2 (Array.mem_of_getElem? hun'))
  have z1 : (if (listed.toList[i] == false) = true then 1 else 0) = 1 := by rw [hv]; rfl
  have z2 : (if (true == false) = true then 1 else 0) = 0 := rfl
  rw [z1, z2]
  omega
theorem ready_spec {listed : Array Bool} {i : Nat} (h : i ∈ Region.ready .any ops listed) : listed.getD i true = false ∧ ∃ o, ops[i]? = some o ∧ ∀ e ∈ o.after.toList, Region.binds .any e = true → listed.getD e.on false = true := by
  obtain ⟨h0, o, ho, hall⟩ := mem_ready.1 h
  exact ⟨h0, o, ho, fun e he hb => hall e (by simpa using he) hb⟩
theorem getD_tf {listed : Array Bool} {i : Nat} (hs : i < listed.size) : listed.getD i true = listed.getD i false := by
  rw [Array.getD_eq_getD_getElem?, Array.getD_eq_getD_getElem?, Array.getElem?_eq_getElem hs]; rfl

/-! ### the ones that write, in their order, each leaving what S says -/
def wpListS (P : Program) (ops : Array Oper) (S : World → Prop) (Q : Act → World → Prop) : List Oper → Act → World → Prop
  | [], a, w => Q a w
  | o :: r, a, w => wpList P ops (fun e a' w' => e = .normal ∧ S w' ∧ wpListS P ops S Q r a' w') [o] a w
theorem ls {S : World → Prop} {Q : Act → World → Prop} {o : Oper} {r : List Oper} {a : Act} {w : World} (h : wpList P ops (fun e a' w' => e = .normal ∧ S w' ∧ wpListS P ops S Q r a' w') [o] a w) : wpListS P ops S Q (o :: r) a w := h
def pickT : List (Oper × Nat) → List Oper
  | [] => []
  | (_, 0) :: r => pickT r
  | (_, 1) :: r => pickT r
  | (o, _) :: r => o :: pickT r
theorem blt_t {a b : Nat} (h : a < b) : Nat.blt a b = true := by rw [Nat.blt_eq]; exact h
theorem blt_i {a b : Nat} (h : Nat.blt a b = true) : a < b := by rw [Nat.blt_eq] at h; exact h
theorem blt_f {a b : Nat} (h : ¬ a < b) : Nat.blt a b = false := by
  cases hq : Nat.blt a b with
  | false => rfl
  | true => exact absurd (blt_i hq) h
theorem wp_both {o : Oper} {a : Act} {w : World} {K K' : Act → World → Prop} {Q Q' : Exit → Act → World → Prop} (h : ∀ a w, K a w → K' a w) (hQ : ∀ e a w, e ≠ .normal → Q e a w → Q' e a w) (hh : o.wp P a w K Q) : o.wp P a w K' Q' := by
  unfold Oper.wp at *
  generalize (execOp a.eval o).run P w = r at *
  cases r with
  | ok n w' =>
    cases n <;> simp only [Oper.upon] at hh ⊢ <;>
      first
        | exact h _ _ hh
        | exact Calls.mono hh (fun e w'' he => by cases e <;> first | exact h _ _ he | exact hQ _ _ _ nofun he | exact (let ⟨a, w, q⟩ := he; ⟨a, w, hQ _ _ _ nofun q⟩))
        | exact Rows.mono hh (fun _ _ he => h _ _ he)
  | halt x w' => cases x <;> simp only [Oper.upon] at hh ⊢ <;> first | exact hQ _ _ _ nofun hh | exact hh
theorem mask_fold_in (acc : List Nat) (i : Nat) : ∀ (l : List Edge) (s : Nat), s.testBit i = true → (l.foldl (fun s e => if Region.binds .any e then s ||| 2 ^ e.on ||| acc.getD e.on 0 else s) s).testBit i = true
  | [], _, h => h
  | e :: r, s, h => by
    refine mask_fold_in acc i r _ ?_
    simp only []
    split
    · simp [Nat.testBit_or, h]
    · exact h
theorem mask_fold_mem (acc : List Nat) : ∀ (l : List Edge) (s : Nat) (e : Edge), e ∈ l → Region.binds .any e = true → (l.foldl (fun s e => if Region.binds .any e then s ||| 2 ^ e.on ||| acc.getD e.on 0 else s) s).testBit e.on = true
  | e' :: r, s, e, he, hb => by
    rcases List.mem_cons.1 he with rfl | he
    · refine mask_fold_in acc _ r _ ?_
      simp only []
      rw [if_pos hb]
      simp [Nat.testBit_or]
    · exact mask_fold_mem acc r _ e he hb
theorem masks_direct {l : List Oper} {j : Nat} {o : Oper} (h : l[j]? = some o) {e : Edge} (he : e ∈ o.after.toList) (hb : Region.binds .any e = true) : ((masksFrom l []).getD j 0).testBit e.on = true := by
  obtain ⟨p, ⟨r, hr⟩, hl⟩ := masks_at l [] j o h
  simp only [List.length_nil, Nat.zero_add] at hl
  have hj : (masksFrom l []).getD j 0 = mask1 p o := by
    rw [hr, List.getD_eq_getElem?_getD, ← hl]; simp
  rw [hj]
  exact mask_fold_mem p _ 0 e he hb
def kd (ks : List Nat) (j : Nat) : Nat := ks.getD j 2
def floatOK (ks : List Nat) (ops : Array Oper) : Bool :=
  let M := masksFrom ops.toList []
  Nat.beq ks.length ops.size && Region.noSelect ops && (List.range ops.size).all fun j =>
    match kd ks j with
    | 0 => (List.range ops.size).all fun i => Nat.blt (kd ks i) 2 || !((M.getD j 0).testBit i)
    | 1 => (List.range ops.size).all fun k => (Nat.blt (kd ks k) 2 || !((M.getD j 0).testBit k)) &&
        (Nat.beq k j || Nat.beq (kd ks k) 0 || (Nat.beq (kd ks k) 1 && Nat.blt k j) || match ops[j]?, ops[k]? with
          | some oj, some ok => ok.after.any (fun e => Region.binds .any e && e.on == j) || oj.apart ops ok
          | _, _ => true)
    | _ => (List.range ops.size).all fun i => (!(Nat.beq (kd ks i) 0) && !(Nat.blt 1 (kd ks i) && Nat.blt i j)) || (M.getD j 0).testBit i
structure FloatOK (ks : List Nat) (ops : Array Oper) : Prop where
  len : ks.length = ops.size
  nosel : Region.noSelect ops = true
  clear : ∀ j, j < ops.size → kd ks j < 2 → ∀ i, i < ops.size → 1 < kd ks i → ((masksFrom ops.toList []).getD j 0).testBit i = false
  free : ∀ j, j < ops.size → kd ks j = 1 → ∀ k oj ok, ops[j]? = some oj → ops[k]? = some ok → k ≠ j → kd ks k ≠ 0 → (kd ks k = 1 → j < k) → (∀ e ∈ ok.after, Region.binds .any e = true → e.on ≠ j) → oj.apart ops ok = true
  behind : ∀ j, j < ops.size → 1 < kd ks j → ∀ i, i < ops.size → kd ks i = 0 ∨ (1 < kd ks i ∧ i < j) → ((masksFrom ops.toList []).getD j 0).testBit i = true
theorem floatOK_spec {ks : List Nat} (h : floatOK ks ops = true) : FloatOK ks ops := by
  unfold floatOK at h
  rw [Bool.and_eq_true, Bool.and_eq_true, List.all_eq_true] at h
  obtain ⟨⟨h1, h2⟩, h3⟩ := h
  refine ⟨Nat.eq_of_beq_eq_true h1, h2, fun j hj hk i hi hki => ?_, fun j hj hk k oj ok hoj hok hkj hk0 hk1 hno => ?_, fun j hj hk i hi hor => ?_⟩
  · have := h3 j (List.mem_range.2 hj)
    have hnb : Nat.blt (kd ks i) 2 = false := by
      cases hq : Nat.blt (kd ks i) 2 with
      | false => rfl
      | true => rw [Nat.blt_eq] at hq; omega
    cases hkj : kd ks j with
    | zero =>
      rw [hkj] at this
      simp only [List.all_eq_true] at this
      have := this i (List.mem_range.2 hi)
      simpa [hnb] using this
    | succ q =>
      cases q with
      | zero =>
        rw [hkj] at this
        simp only [Nat.zero_add, List.all_eq_true] at this
        have := this i (List.mem_range.2 hi)
        rw [Bool.and_eq_true] at this
        simpa [hnb] using this.1
      | succ q => omega
  · have := h3 j (List.mem_range.2 hj)
    rw [hk] at this
    simp only [List.all_eq_true] at this
    have hklt : k < ops.size := (Array.getElem?_eq_some_iff.1 hok).1
    have := this k (List.mem_range.2 hklt)
    rw [Bool.and_eq_true, hoj, hok] at this
    have := this.2
    simp only [Bool.or_eq_true] at this
    rcases this with ((h | h) | h) | (h | h)
    · exact absurd (Nat.eq_of_beq_eq_true h) hkj
    · exact absurd (Nat.eq_of_beq_eq_true h) hk0
    · rw [Bool.and_eq_true] at h
      have e1 := Nat.eq_of_beq_eq_true h.1
      have e2 := h.2
      rw [Nat.blt_eq] at e2
      have := hk1 e1
      omega
    · obtain ⟨e, he, hb⟩ := Array.any_eq_true'.1 h
      simp only [Bool.and_eq_true, beq_iff_eq] at hb
      exact absurd hb.2 (hno e he hb.1)
    · exact h
  · have := h3 j (List.mem_range.2 hj)
    obtain ⟨q, hq⟩ : ∃ q, kd ks j = q + 2 := ⟨kd ks j - 2, by omega⟩
    rw [hq] at this
    simp only [List.all_eq_true] at this
    have := this i (List.mem_range.2 hi)
    rw [Bool.or_eq_true, Bool.and_eq_true] at this
    rcases this with ⟨h4, h5⟩ | h
    · exfalso
      rcases hor with h0 | ⟨h0, h6⟩
      · rw [h0] at h4; simp at h4
      · rw [blt_t h0, blt_t h6] at h5
        simp at h5
    · exact h
theorem wpAnyH_forced {ks : List Nat} (hf : FloatOK ks ops) {S : World → Prop} {Q : Act → World → Prop} (hwf : ∀ i o, ops[i]? = some o → ∀ e ∈ o.after.toList, Region.binds .any e = true → e.on < i) :
    ∀ (m : Nat) (fuel : Nat) (listed : Array Bool) (a : Act) (w : World) (i : Nat), i + m = ops.size → listed.size = ops.size → (∀ j, j < i → listed.getD j false = true) → (∀ j, i ≤ j → j < ops.size → listed.getD j false = Nat.blt (kd ks j) 2) →
      listed.toList.count false ≤ fuel → wpListS P ops S Q (pickT ((ops.toList.zip ks).drop i)) a w → wpAnyH P .any ops (fun e a w => e = .normal ∧ Q a w) S fuel listed a w := by
  have hwf' : ∀ (i : Nat) (o : Oper), ops.toList[i]? = some o → ∀ e ∈ o.after.toList, Region.binds .any e = true → e.on < i := fun i o h => hwf i o (by simpa using h)
  intro m
  induction m with
  | zero =>
    intro fuel listed a w i him hs hl hr hc h
    have hrd : Region.ready .any ops listed = [] := by
      unfold Region.ready
      rw [List.filter_eq_nil_iff]
      intro j hj
      have hj := List.mem_range.1 hj
      rw [getD_tf (by omega), hl j (by omega)]
      simp
    rw [List.drop_eq_nil_of_le (by rw [List.length_zip, hf.len]; simp; omega)] at h
    exact wpAnyH_done hrd ⟨rfl, h⟩ fuel
  | succ m ih =>
    intro fuel listed a w i him hs hl hr hc h
    have hi : i < ops.size := by omega
    have hil : i < ks.length := by rw [hf.len]; exact hi
    have hdrop : (ops.toList.zip ks).drop i = (ops[i], ks[i]) :: (ops.toList.zip ks).drop (i + 1) := by
      rw [List.drop_eq_getElem_cons (by rw [List.length_zip, hf.len]; simp; omega)]; simp
    have hkd : kd ks i = ks[i] := by unfold kd; rw [List.getD_eq_getElem?_getD, List.getElem?_eq_getElem hil]; rfl
    rw [hdrop] at h
    by_cases h2 : kd ks i < 2
    · have hli : listed.getD i false = true := by rw [hr i (Nat.le_refl _) hi]; exact blt_t h2
      refine ih fuel listed a w (i + 1) (by omega) hs (fun j hj => ?_) (fun j hj hj2 => hr j (by omega) hj2) hc ?_
      · rcases Nat.lt_or_ge j i with hh | hh
        · exact hl j hh
        · have : j = i := by omega
          subst this; exact hli
      · rw [hkd] at h2
        generalize ks[i] = q at h h2
        match q, h2 with
        | 0, _ => exact h
        | 1, _ => exact h
    · have hnb : Nat.blt (kd ks i) 2 = false := by
        cases hq : Nat.blt (kd ks i) 2 with
        | false => rfl
        | true => rw [Nat.blt_eq] at hq; omega
      have hli : listed.getD i false = false := by rw [hr i (Nat.le_refl _) hi, hnb]
      have hki : 1 < kd ks i := by omega
      have ho : ops[i]? = some ops[i] := Array.getElem?_eq_getElem hi
      have h' : wpListS P ops S Q (ops[i] :: pickT ((ops.toList.zip ks).drop (i + 1))) a w := by
        rw [hkd] at hki
        generalize ks[i] = q at h hki
        match q, hki with
        | q + 2, _ => exact h
      -- one is ready
      have hmem : i ∈ Region.ready .any ops listed := by
        rw [mem_ready]
        refine ⟨by rw [getD_tf (by omega)]; exact hli, _, ho, fun e he hb => hl e.on (hwf i _ ho e (by simpa using he) hb)⟩
      have hone : ∀ r ∈ Region.ready .any ops listed, r = i := by
        intro r hr'
        obtain ⟨hun, o, hor, hpre⟩ := ready_spec hr'
        have hrlt : r < ops.size := (Array.getElem?_eq_some_iff.1 hor).1
        rw [getD_tf (by omega)] at hun
        rcases Nat.lt_or_ge r i with hh | hh
        · rw [hl r hh] at hun; cases hun
        rcases Nat.lt_or_ge i r with hlt | _
        case inr => omega
        exfalso
        have hkr : 1 < kd ks r := by
          have := hr r hh hrlt
          rw [hun] at this
          rcases Nat.lt_or_ge 1 (kd ks r) with h | h
          · exact h
          · rw [blt_t (show kd ks r < 2 by omega)] at this; cases this
        have hbit := hf.behind r hrlt hkr i hi (.inr ⟨hki, hlt⟩)
        obtain ⟨e, hea, heb, hec⟩ := masks_edge (l := ops.toList) (by simpa using hor) hbit
        have hle := hpre e hea heb
        have helt := hwf r o hor e hea heb
        rcases hec with hec | hec
        · rw [hec, hli] at hle; cases hle
        · have hie := masks_lt hwf' e.on i (by simp; omega) hec
          have hek := hr e.on (by omega) (by omega)
          rw [hle] at hek
          have hek : kd ks e.on < 2 := blt_i hek.symm
          rw [hf.clear e.on (by omega) hek i hi hki] at hec
          cases hec
      obtain ⟨fuel, rfl⟩ : ∃ f, fuel = f + 1 := by
        cases fuel with
        | succ f => exact ⟨f, rfl⟩
        | zero =>
          exfalso
          have hun' : false ∈ listed.toList := by
            rw [Array.getD_eq_getD_getElem?, Array.getElem?_eq_getElem (by omega)] at hli
            simp only [Option.getD_some] at hli
            rw [← hli]; exact Array.mem_toList_iff.2 (Array.getElem_mem (by omega))
          have := List.count_pos_iff.2 hun'
          omega
      refine ⟨fun hh => absurd (hh ▸ hmem) (by simp), fun r hr' => ?_⟩
      have := hone r hr'
      subst this
      have hnext : ∀ a' w', S w' → wpListS P ops S Q (pickT ((ops.toList.zip ks).drop (r + 1))) a' w' → S w' ∧ wpAnyH P .any ops (fun e a w => e = .normal ∧ Q a w) S fuel (listed.setIfInBounds r true) a' w' := fun a' w' hS h =>
        ⟨hS, ih fuel _ a' w' (r + 1) (by omega) (by simp [hs]) (fun j hj => by
          rw [getD_set (by omega)]
          split
          · rfl
          · exact hl j (by omega)) (fun j hj hj2 => by
          rw [getD_set (by omega), if_neg (by omega)]
          exact hr j (by omega) hj2) (count_less (by omega) hli hc) h⟩
      unfold wpListS at h'
      unfold wpOp
      rw [ho]
      simp only []
      unfold wpList at h'
      split
      · rename_i hw
        rw [if_pos hw] at h'
        rcases h' with h' | ⟨_, a'', w'', he, _⟩
        · exact .inl (wp_both (fun a' w' hh => hnext a' w' hh.2.1 hh.2.2) (fun e a' w' hne hh => absurd hh.1 hne) h')
        · cases he
      · rename_i hw
        rw [if_neg hw] at h'
        exact hnext _ _ h'.2.1 h'.2.2
theorem least_of {p : Nat → Prop} : ∀ (n : Nat), p n → ∃ j, p j ∧ ∀ i, i < j → ¬ p i := by
  intro n
  induction n using Nat.strongRecOn with
  | _ n ih =>
    intro hn
    by_cases h : ∃ i, i < n ∧ p i
    · obtain ⟨i, hi, hp⟩ := h
      exact ih i hi hp
    · exact ⟨n, hn, fun i hi hp => h ⟨i, hi, hp⟩⟩
theorem gam_skip {D : Nat → Bool} : ∀ (es : List (Option Tmp × Pr)) (k : Nat) (Γ : List (Nat × Pr)), (∀ j e, es[j]? = some e → D (k + j) = true ∨ e.1 = none) → gam D es k Γ = es.foldl (fun Γ e => upd Γ e.1 e.2) Γ
  | [], _, _, _ => rfl
  | (d, φ) :: r, k, Γ, h => by
    unfold gam
    rw [gam_skip r (k + 1) _ (fun j e he => by have := h (j + 1) e (by simpa using he); rwa [show k + (j + 1) = k + 1 + j by omega] at this)]
    rw [List.foldl_cons]
    rcases h 0 _ rfl with h0 | h0
    · rw [if_pos (by simpa using h0)]
    · have h0 : d = none := h0
      subst h0
      split <;> rfl
/-- All that look first are done: the rest. -/
theorem float_rest {ks : List Nat} (hf : FloatOK ks ops) {Q : Act → World → Prop} (hlen : es.length = ops.size) (hes : ∀ (j : Nat) (e : Option Tmp × Pr), es[j]? = some e → ∃ y : Oper, ops[j]? = some y ∧ (e.1 = y.dst ∨ e.1 = none))
    (hst : ∀ i o, ops[i]? = some o → (1 < kd ks i ∧ es[i]? = some (none, Pr.top)) ∨ (kd ks i < 2 ∧ ∃ φ, es[i]? = some (o.dst, φ) ∧ StepG P ops o ((es.take i).foldl (fun Γ e => upd Γ e.1 e.2) Γ) φ ∧ (kd ks i = 1 → StepYo P o ((es.take i).foldl (fun Γ e => upd Γ e.1 e.2) Γ) φ)))
    (ht : tempsOK ops = true) (hd : dstsIn n ops.toList = true) (hwf : ∀ i o, ops[i]? = some o → ∀ e ∈ o.after.toList, Region.binds .any e = true → e.on < i) {w : World}
    (k : ∀ a, At n F (es.foldl (fun Γ e => upd Γ e.1 e.2) Γ) a w → wpListS P ops (fun w' => Mem.le (vw F w) w'.cell?) Q (pickT (ops.toList.zip ks)) a w) :
    ∀ (fuel : Nat) (listed : Array Bool) (a : Act), Inv n F ops es Γ listed a w → (∀ j, j < ops.size → kd ks j = 0 → listed.getD j false = true) → (∀ j, j < ops.size → 1 < kd ks j → listed.getD j false = false) → listed.toList.count false ≤ fuel →
      wpAnyH P .any ops (fun e a w => e = .normal ∧ Q a w) (fun w' => Mem.le (vw F w) w'.cell?) fuel listed a w := by
  intro fuel
  induction fuel with
  | zero =>
    intro listed a hinv hA hT hc
    by_cases hq : ∃ j, j < ops.size ∧ listed.getD j false = false
    · exfalso
      obtain ⟨j, hj, hu⟩ := hq
      have hs := hinv.size
      have hun' : false ∈ listed.toList := by
        rw [Array.getD_eq_getD_getElem?, Array.getElem?_eq_getElem (by omega)] at hu
        simp only [Option.getD_some] at hu
        rw [← hu]; exact Array.mem_toList_iff.2 (Array.getElem_mem (by omega))
      have := List.count_pos_iff.2 hun'
      omega
    · have hall : ∀ j, j < ops.size → listed.getD j false = true := fun j hj => by
        cases h : listed.getD j false with
        | true => rfl
        | false => exact absurd ⟨j, hj, h⟩ hq
      refine wpAnyH_forced hf hwf ops.size 0 listed a w 0 (by omega) hinv.size (fun j hj => by omega) (fun j _ hj => ?_) hc (k a ?_)
      · rw [hall j hj]
        symm
        refine blt_t (Nat.lt_of_not_le fun h => ?_)
        have := hT j hj (by omega)
        rw [hall j hj] at this; cases this
      · have := hinv.at_
        rwa [gam_skip es 0 Γ (fun j e he => .inl (by rw [Nat.zero_add]; exact hall j (by have := (List.getElem?_eq_some_iff.1 he).1; omega)))] at this
  | succ fuel ih =>
    intro listed a hinv hA hT hc
    have hs := hinv.size
    by_cases hq : ∃ j, j < ops.size ∧ kd ks j < 2 ∧ listed.getD j false = false
    · obtain ⟨j0, hj0⟩ := hq
      obtain ⟨j, ⟨hj, hk, hu⟩, hmin⟩ := least_of (p := fun j => j < ops.size ∧ kd ks j < 2 ∧ listed.getD j false = false) j0 hj0
      have ho : ops[j]? = some ops[j] := Array.getElem?_eq_getElem hj
      have hk1 : kd ks j = 1 := by
        rcases Nat.lt_or_ge (kd ks j) 1 with h | h
        · have := hA j hj (by omega)
          rw [hu] at this; cases this
        · omega
      have hpre : ∀ e ∈ (ops[j]).after.toList, Region.binds .any e = true → listed.getD e.on false = true := by
        intro e he hb
        have hlt := hwf j _ ho e he hb
        cases hl : listed.getD e.on false with
        | true => rfl
        | false =>
          exfalso
          by_cases h2 : kd ks e.on < 2
          · exact hmin e.on hlt ⟨by omega, h2, hl⟩
          · have hbit : ((masksFrom ops.toList []).getD j 0).testBit e.on = true := by
              have := masks_direct (l := ops.toList) (j := j) (o := ops[j]) (by simp [hj]) he hb
              exact this
            rw [hf.clear j hj hk e.on (by omega) (by omega)] at hbit
            cases hbit
      rcases hst j _ ho with ⟨h2, _⟩ | ⟨_, φ, he, hsg, hsy⟩
      · omega
      obtain ⟨hg, hsel, hy⟩ := hsy hk1
      have hmet := inv_met hlen hes ht hinv ho hu hpre
      obtain ⟨v, hv, hrun⟩ := hy (v2 F w) a (hmet.sub fun x hx => by simp [looks, hx])
      refine wpAnyH_first (v := v) ho (fun j o cs b hjo => Region.noSelect_spec hf.nosel j o cs b hjo) (fun c a w h => absurd h.1 nofun) fuel listed a w (fun k ok hok hkj hunk hno => ?_) ?_ (.inl ⟨?_, fun w' hS => ?_⟩) (fun _ _ h => vw_cell h) (ih _ _ ?_ (fun i hi hki => ?_) (fun i hi hki => ?_) (count_less (by omega) hu hc))
      · have hklt : k < ops.size := (Array.getElem?_eq_some_iff.1 hok).1
        rw [getD_tf (by omega)] at hunk
        refine hf.free j hj hk1 k _ ok ho hok hkj (fun h0 => ?_) (fun h1 => ?_) (fun e he hb => hno e (by simpa using he) hb)
        · have := hA k hklt h0
          rw [hunk] at this; cases this
        · rcases Nat.lt_or_ge j k with h | h
          · exact h
          · exact absurd ⟨hklt, by omega, hunk⟩ (hmin k (by omega))
      · rw [mem_ready]
        exact ⟨by rw [getD_tf (by omega)]; exact hu, _, ho, fun e he hb => hpre e (by simpa using he) hb⟩
      · unfold Region.wanted
        rw [hg]
      · exact hrun w' hS
      · exact inv_next hlen hes ht hd hinv ho he hu hpre (Below.refl _ _) hv
      · rw [getD_set (by omega)]
        split
        · rfl
        · exact hA i hi hki
      · rw [getD_set (by omega), if_neg (fun e => by subst e; omega)]
        exact hT i hi hki
    · have hall : ∀ j, j < ops.size → kd ks j < 2 → listed.getD j false = true := fun j hj hk => by
        cases h : listed.getD j false with
        | true => rfl
        | false => exact absurd ⟨j, hj, hk, h⟩ hq
      refine wpAnyH_forced hf hwf ops.size (fuel + 1) listed a w 0 (by omega) hinv.size (fun j hj => by omega) (fun j _ hj => ?_) hc (k a ?_)
      · by_cases h2 : kd ks j < 2
        · rw [hall j hj h2, blt_t h2]
        · rw [hT j hj (by omega), blt_f h2]
      · have := hinv.at_
        rwa [gam_skip es 0 Γ (fun j e he => by
          have hj : j < ops.size := by have := (List.getElem?_eq_some_iff.1 he).1; omega
          rw [Nat.zero_add]
          rcases hst j _ (Array.getElem?_eq_getElem hj) with ⟨_, h1⟩ | ⟨h2, _⟩
          · rw [h1] at he; cases he; exact .inr rfl
          · exact .inl (hall j hj h2))] at this
/-- From the beginning. -/
theorem float_all {ks : List Nat} (hf : FloatOK ks ops) {Q : Act → World → Prop} (hlen : es.length = ops.size) (hes : ∀ (j : Nat) (e : Option Tmp × Pr), es[j]? = some e → ∃ y : Oper, ops[j]? = some y ∧ (e.1 = y.dst ∨ e.1 = none))
    (hst : ∀ i o, ops[i]? = some o → (1 < kd ks i ∧ es[i]? = some (none, Pr.top)) ∨ (kd ks i < 2 ∧ ∃ φ, es[i]? = some (o.dst, φ) ∧ StepG P ops o ((es.take i).foldl (fun Γ e => upd Γ e.1 e.2) Γ) φ ∧ (kd ks i = 1 → StepYo P o ((es.take i).foldl (fun Γ e => upd Γ e.1 e.2) Γ) φ)))
    (ht : tempsOK ops = true) (hd : dstsIn n ops.toList = true) (hwf : ∀ i o, ops[i]? = some o → ∀ e ∈ o.after.toList, Region.binds .any e = true → e.on < i) (w0 : World)
    (k : ∀ a w, Below w0.heap.size w0 w → At n F (es.foldl (fun Γ e => upd Γ e.1 e.2) Γ) a w → wpListS P ops (fun w' => Mem.le (vw F w) w'.cell?) Q (pickT (ops.toList.zip ks)) a w) :
    ∀ (fuel : Nat) (listed : Array Bool) (a : Act) (w : World), Below w0.heap.size w0 w → Inv n F ops es Γ listed a w → (∀ j, j < ops.size → 1 < kd ks j → listed.getD j false = false) → listed.toList.count false ≤ fuel →
      wpAny P .any ops (fun e a w => e = .normal ∧ Q a w) fuel listed a w := by
  intro fuel
  induction fuel with
  | zero =>
    intro listed a w hb hinv hT hc
    refine wpAny_of_held _ _ _ _ (float_rest hf hlen hes hst ht hd hwf (fun a ha => k a w hb ha) 0 listed a hinv (fun j hj _ => ?_) hT hc)
    cases hu : listed.getD j false with
    | true => rfl
    | false =>
      have hs := hinv.size
      have hun' : false ∈ listed.toList := by
        rw [Array.getD_eq_getD_getElem?, Array.getElem?_eq_getElem (by omega)] at hu
        simp only [Option.getD_some] at hu
        rw [← hu]; exact Array.mem_toList_iff.2 (Array.getElem_mem (by omega))
      have := List.count_pos_iff.2 hun'
      omega
  | succ fuel ih =>
    intro listed a w hb hinv hT hc
    have hs := hinv.size
    by_cases hall : ∀ j, j < ops.size → kd ks j = 0 → listed.getD j false = true
    · exact wpAny_of_held _ _ _ _ (float_rest hf hlen hes hst ht hd hwf (fun a ha => k a w hb ha) (fuel + 1) listed a hinv hall hT hc)
    · have hex : ∃ j, j < ops.size ∧ kd ks j = 0 ∧ listed.getD j false = false := by
        refine Classical.byContradiction fun hh => hall fun j hj hk => ?_
        cases hu : listed.getD j false with
        | true => rfl
        | false => exact absurd ⟨j, hj, hk, hu⟩ hh
      obtain ⟨j0, hj0⟩ := hex
      obtain ⟨j, ⟨hj, hk, hu⟩, hmin⟩ := least_of (p := fun j => j < ops.size ∧ kd ks j < 2 ∧ listed.getD j false = false) j0 ⟨hj0.1, by omega, hj0.2.2⟩
      refine ⟨fun hr => ?_, fun i hi => ?_⟩
      · -- the least one that is not done is ready
        exfalso
        have : j ∈ Region.ready .any ops listed := by
          rw [mem_ready]
          refine ⟨by rw [getD_tf (by omega)]; exact hu, _, Array.getElem?_eq_getElem hj, fun e he hbd => ?_⟩
          have hlt := hwf j _ (Array.getElem?_eq_getElem hj) e (by simpa using he) hbd
          cases hl : listed.getD e.on false with
          | true => rfl
          | false =>
            exfalso
            by_cases h2 : kd ks e.on < 2
            · exact hmin e.on hlt ⟨by omega, h2, hl⟩
            · have hbit := masks_direct (l := ops.toList) (j := j) (o := ops[j]) (by simp [hj]) (by simpa using he) hbd
              rw [hf.clear j hj hk e.on (by omega) (by omega)] at hbit
              cases hbit
        rw [hr] at this
        cases this
      · obtain ⟨hun, o, ho, hpre⟩ := ready_spec hi
        have hilt : i < ops.size := (Array.getElem?_eq_some_iff.1 ho).1
        rw [getD_tf (by omega)] at hun
        rcases hst i o ho with ⟨h2, _⟩ | ⟨h2, φ, he, hsg, _⟩
        · -- a writer is not ready yet
          exfalso
          have hbit := hf.behind i hilt h2 j0 hj0.1 (.inl hj0.2.1)
          obtain ⟨e, hea, heb, hec⟩ := masks_edge (l := ops.toList) (by simpa using ho) hbit
          have hl := hpre e hea heb
          rcases hec with rfl | hec
          · rw [hj0.2.2] at hl; cases hl
          · have := hinv.closed _ hl _ hec
            rw [hj0.2.2] at this; cases this
        · have hmet := inv_met hlen hes ht hinv ho hun hpre
          have hT' : ∀ q, q < ops.size → 1 < kd ks q → (listed.setIfInBounds i true).getD q false = false := fun q hq hkq => by
            rw [getD_set (by omega), if_neg (fun e => by subst e; omega)]
            exact hT q hq hkq
          have hx := hsg.2 F w a hinv.at_.own hmet
          unfold wpOp
          rw [ho]
          simp only []
          split
          · rename_i hw
            rw [if_pos hw] at hx
            exact .inl (wp_of_ex (hx.mono fun v w' hk => ih _ _ _ (below_trans' hb hk.1) (inv_next hlen hes ht hd hinv ho he hun hpre hk.1 hk.2) hT' (count_less (by omega) hun hc)))
          · rename_i hw
            rw [if_neg hw] at hx
            exact ih _ _ _ hb (inv_next hlen hes ht hd hinv ho he hun hpre (Below.refl _ _) hx) hT' (count_less (by omega) hun hc)
/-- **A region of operations that look, and of some that write one behind the other.** -/
theorem wp_float (hm : P.follows .mixedOrders = true) (ks : List Nat) {id : Nat} {Q : Exit → Act → World → Prop} {a : Act} {w w0 : World} (hok : regionOK n ops = true) (hfl : floatOK ks ops = true) (ha : At n F Γ a w) (hB : Below w0.heap.size w0 w)
    (hs : SeqF P ops (ops.toList.zip ks) Γ fun Γ' => ∀ a' w', Below w.heap.size w w' → Below w0.heap.size w0 w' → At n F Γ' a' w' → wpListS P ops (fun w'' => Mem.le (vw F w') w''.cell?) (Q .normal) (pickT (ops.toList.zip ks)) a' w') : (Code.region id ops true).wp P Q a w := by
  have hf := floatOK_spec hfl
  unfold regionOK at hok
  rw [Bool.and_eq_true, Bool.and_eq_true] at hok
  obtain ⟨⟨ht, he⟩, hd⟩ := hok
  have hwf : ∀ i o, ops[i]? = some o → ∀ e ∈ o.after.toList, Region.binds .any e = true → e.on < i := by
    intro i o ho e hea heb
    unfold edgesOK at he
    rw [List.all_eq_true] at he
    have := he i (List.mem_range.2 (Array.getElem?_eq_some_iff.1 ho).1)
    rw [ho] at this
    simp only [Option.map_some, Option.getD_some, Array.all_eq_true'] at this
    have := this e (by simpa using hea)
    rw [heb] at this
    simpa [Nat.blt_eq] using this
  obtain ⟨es, h1, h2, h3⟩ := seqF_open hs
  have hzl : (ops.toList.zip ks).length = ops.size := by rw [List.length_zip, hf.len]; simp
  have hzip : ∀ i o, ops[i]? = some o → (ops.toList.zip ks)[i]? = some (o, kd ks i) := by
    intro i o ho
    have hi : i < ops.size := (Array.getElem?_eq_some_iff.1 ho).1
    have hki : i < ks.length := by rw [hf.len]; exact hi
    rw [List.getElem?_zip_eq_some]
    refine ⟨by simpa using ho, ?_⟩
    unfold kd
    rw [List.getD_eq_getElem?_getD, List.getElem?_eq_getElem hki]; rfl
  refine Code.wp_mono (Q := fun e a w => e = .normal ∧ Q .normal a w) (fun e a w h => by obtain ⟨rfl, h⟩ := h; exact h) (wp_region_any hm ?_)
  have h0 : Below w.heap.size w { w with drawn := w.drawn + 1 } := (Below.refl _ _).drew
  refine float_all (n := n) (F := F) (es := es) (Γ := Γ) hf (h1.trans hzl) (fun j e hj => ?_) (fun i o ho => ?_) ht hd hwf w (fun a' w' hb ha' => h2 a' w' hb (below_trans' hB hb) ha') ops.size _ a _ h0 ⟨by simp, fun j hj => ?_, ?_⟩ (fun j hj _ => ?_) ?_
  · have hj' : j < ops.size := by have := (List.getElem?_eq_some_iff.1 hj).1; omega
    refine ⟨ops[j], Array.getElem?_eq_getElem hj', ?_⟩
    rcases h3 j _ _ (hzip j _ (Array.getElem?_eq_getElem hj')) with ⟨_, h⟩ | ⟨_, φ, h, _⟩
    · rw [h] at hj; cases hj; exact .inr rfl
    · rw [h] at hj; cases hj; exact .inl rfl
  · exact h3 i o _ (hzip i o ho)
  · simp [Array.getD_eq_getD_getElem?, Array.getElem?_replicate] at hj
    split at hj <;> simp at hj
  · rw [gam_none es 0 Γ (fun j _ => by simp [Array.getD_eq_getD_getElem?, Array.getElem?_replicate]; split <;> rfl)]
    exact ⟨ha.size, ha.defers, ha.own, ha.sat⟩
  · simp [Array.getD_eq_getD_getElem?, Array.getElem?_replicate]; split <;> rfl
  · exact Nat.le_trans (List.count_le_length) (by simp)
end
end Go.Proofs.Ytkbilbeaedocjaa.Wh
