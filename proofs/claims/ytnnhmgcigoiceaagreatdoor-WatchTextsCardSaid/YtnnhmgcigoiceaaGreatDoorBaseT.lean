/-
  What is proved: a region of operations that change nothing that was there, whose calls read a table of the library's: by the order of its text, whatever order is drawn.
-/
import Derived.Test.YtnnhmgcigoiceaaGreatDoorBaseS
namespace Go.Proofs.YtnnhmgcigoiceaaGreatDoor.Wh
open Go Go.RowKit

def StepGT (P : Program) (ops : Array Oper) (o : Oper) (Γ : List (Nat × Pr)) (φ : Pr) : Prop :=
  (∀ cs b, o.op ≠ .select cs b) ∧
  ∀ (F : Nat → Bool) (w : World) (a : Act), TabT P w → (∀ b, F b = true → b < w.heap.size) → Met Γ (looks ops o) (v2 F w) a →
    if Region.wanted o (yielded ops a.tmps) then Ex P (execOp a.eval o) w fun v w' => Below w.heap.size w w' ∧ φ.p (v2 F w') v else φ.p (v2 F w) undef
theorem StepG.tab {P : Program} {ops : Array Oper} {o : Oper} {Γ : List (Nat × Pr)} {φ : Pr} (h : StepG P ops o Γ φ) : StepGT P ops o Γ φ := ⟨h.1, fun F w a _ hF hm => h.2 F w a hF hm⟩
def SeqT (P : Program) (ops : Array Oper) : List Oper → List (Nat × Pr) → (List (Nat × Pr) → Prop) → Prop
  | [], Γ, K => K Γ
  | o :: r, Γ, K => ∃ φ, StepGT P ops o Γ φ ∧ SeqT P ops r (upd Γ o.dst φ) K
theorem seqT_open {P : Program} {ops : Array Oper} {K : List (Nat × Pr) → Prop} : ∀ {l : List Oper} {Γ : List (Nat × Pr)}, SeqT P ops l Γ K →
    ∃ es : List (Option Tmp × Pr), es.length = l.length ∧ K (es.foldl (fun Γ e => upd Γ e.1 e.2) Γ) ∧
      ∀ i o, l[i]? = some o → ∃ φ, es[i]? = some (o.dst, φ) ∧ StepGT P ops o ((es.take i).foldl (fun Γ e => upd Γ e.1 e.2) Γ) φ
  | [], Γ, h => ⟨[], rfl, h, fun i o ho => by simp at ho⟩
  | o :: r, Γ, ⟨φ, hst, hr⟩ => by
    obtain ⟨es, hl, hf, hs⟩ := seqT_open hr
    refine ⟨(o.dst, φ) :: es, by simp [hl], by simpa using hf, fun i o' ho => ?_⟩
    cases i with
    | zero => simp at ho; subst ho; exact ⟨φ, by simp, by simpa using hst⟩
    | succ i =>
      obtain ⟨ψ, h1, h2⟩ := hs i o' (by simpa using ho)
      exact ⟨ψ, by simpa using h1, by simpa using h2⟩
theorem wpAny_invT {P : Program} {ops : Array Oper} {Q : Exit → Act → World → Prop} {n : Nat} {F : Nat → Bool} {es : List (Option Tmp × Pr)} {Γ : List (Nat × Pr)} (hlen : es.length = ops.size)
    (hst : ∀ i o, ops[i]? = some o → ∃ φ, es[i]? = some (o.dst, φ) ∧ StepGT P ops o ((es.take i).foldl (fun Γ e => upd Γ e.1 e.2) Γ) φ)
    (ht : tempsOK ops = true) (hd : dstsIn n ops.toList = true) (w0 : World) (hT0 : TabT P w0) (hwf : ∀ i o, ops[i]? = some o → ∀ e ∈ o.after.toList, Region.binds .any e = true → e.on < i)
    (k : ∀ a w, Below w0.heap.size w0 w → At n F (es.foldl (fun Γ e => upd Γ e.1 e.2) Γ) a w → Q .normal a w) :
    ∀ (fuel : Nat) (listed : Array Bool) (a : Act) (w : World), Below w0.heap.size w0 w → Inv n F ops es Γ listed a w → (∃ m, listed.toList.count false = m ∧ m ≤ fuel) →
      wpAny P .any ops Q fuel listed a w := by
  -- if nothing is ready, all is done
  have hready : ∀ listed : Array Bool, listed.size = ops.size → Region.ready .any ops listed = [] → ∀ i, i < ops.size → listed.getD i false = true := by
    intro listed hs hr i
    induction i using Nat.strongRecOn with
    | _ i ih =>
      intro hi
      cases hb : listed.getD i false with
      | true => rfl
      | false =>
        exfalso
        have hb' : listed.getD i true = false := by
          rw [Array.getD_eq_getD_getElem?] at hb ⊢
          rw [Array.getElem?_eq_getElem (by omega)] at hb ⊢
          simpa using hb
        have : i ∈ Region.ready .any ops listed := by
          unfold Region.ready
          rw [List.mem_filter]
          refine ⟨List.mem_range.2 hi, ?_⟩
          rw [hb', Array.getElem?_eq_getElem hi]
          simp only [Bool.not_false, Option.map_some, Option.getD_some, Bool.true_and]
          rw [Array.all_eq_true']
          intro e he
          cases hbd : Region.binds .any e with
          | false => simp
          | true =>
            have hlt := hwf i ops[i] (Array.getElem?_eq_getElem hi) e (by simpa using he) hbd
            simp [ih e.on hlt (by omega)]
        rw [hr] at this
        cases this
  have hfin : ∀ (listed : Array Bool) (a : Act) (w : World), Below w0.heap.size w0 w → Inv n F ops es Γ listed a w → Region.ready .any ops listed = [] → Q .normal a w := by
    intro listed a w hb hinv hr
    refine k a w hb ?_
    have := hinv.at_
    rwa [gam_all es 0 Γ (fun j hj => by simpa using hready listed hinv.size hr j (by omega))] at this
  intro fuel
  induction fuel with
  | zero =>
    intro listed a w hb hinv ⟨m, hm, hle⟩
    have h0 : listed.toList.count false = 0 := by omega
    have hall : ∀ i, listed.getD i true = true := by
      intro i
      cases hq : listed.getD i true with
      | true => rfl
      | false =>
        have : false ∈ listed.toList := by
          rw [Array.getD_eq_getD_getElem?] at hq
          cases hl : listed[i]? with
          | none => rw [hl] at hq; simp at hq
          | some b => rw [hl] at hq; simp at hq; subst hq; exact Array.mem_toList_iff.2 (Array.mem_of_getElem? hl)
        exact absurd (List.count_pos_iff.2 this) (by omega)
    have hr : Region.ready .any ops listed = [] := by
      unfold Region.ready
      rw [List.filter_eq_nil_iff]
      intro i _
      simp [hall i]
    exact ⟨hr, hfin listed a w hb hinv hr⟩
  | succ fuel ih =>
    intro listed a w hb hinv ⟨m, hm, hle⟩
    refine ⟨fun hr => hfin listed a w hb hinv hr, fun i hi => ?_⟩
    unfold Region.ready at hi
    rw [List.mem_filter, List.mem_range] at hi
    obtain ⟨hilt, hi⟩ := hi
    rw [Bool.and_eq_true] at hi
    obtain ⟨hun, hpre⟩ := hi
    have hun' : listed[i]? = some false := by
      rw [Array.getD_eq_getD_getElem?] at hun
      have hl : i < listed.size := by rw [hinv.size]; exact hilt
      rw [Array.getElem?_eq_getElem hl] at hun ⊢
      simpa using hun
    have hunf : listed.getD i false = false := by rw [Array.getD_eq_getD_getElem?, hun']; rfl
    have ho : ops[i]? = some ops[i] := Array.getElem?_eq_getElem hilt
    generalize ops[i] = o at ho
    rw [ho] at hpre
    simp only [Option.map_some, Option.getD_some, Array.all_eq_true'] at hpre
    obtain ⟨φ, he, hsg⟩ := hst i o ho
    -- what is ordered
    have hbefore : ∀ (j : Nat) (y : Oper), ops[j]? = some y → clash ops o y = true → (j < i → listed.getD j false = true) ∧ (i < j → listed.getD j false = false) := by
      intro j y hy hc
      refine ⟨fun hji => ?_, fun hij => ?_⟩
      · have hbit := tempsOK_at ht ho hy hji hc
        obtain ⟨e, hea, heb, hec⟩ := masks_edge (l := ops.toList) (by simpa using ho) hbit
        have hl : listed.getD e.on false = true := by
          have := hpre e (by simpa using hea)
          rw [heb] at this
          simpa using this
        rcases hec with rfl | hec
        · exact hl
        · exact hinv.closed _ hl _ hec
      · cases hq : listed.getD j false with
        | false => rfl
        | true =>
          have hbit := tempsOK_at ht hy ho hij (clash_symm ops _ _ hc)
          have := hinv.closed j hq i hbit
          rw [hunf] at this
          cases this
    have hes : ∀ (j : Nat) (e : Option Tmp × Pr), es[j]? = some e → ∃ y : Oper, ops[j]? = some y ∧ e.1 = y.dst := by
      intro j e hej
      have hj : j < ops.size := by rw [← hlen]; exact (List.getElem?_eq_some_iff.1 hej).1
      obtain ⟨ψ, h1, _⟩ := hst j ops[j] (Array.getElem?_eq_getElem hj)
      rw [h1] at hej
      exact ⟨ops[j], Array.getElem?_eq_getElem hj, by cases hej; rfl⟩
    have hgamlt : gam (fun k => Nat.blt k i) es 0 Γ = (es.take i).foldl (fun Γ e => upd Γ e.1 e.2) Γ := by
      conv => lhs; rw [← List.take_append_drop i es, gam_append]
      rw [gam_none _ _ _ (fun j _ => by
        rw [List.length_take, Nat.min_eq_left (by omega)]
        cases hq : Nat.blt (0 + i + j) i with
        | false => rfl
        | true => rw [Nat.blt_eq] at hq; omega)]
      exact gam_all _ _ _ fun j hj => by rw [Nat.blt_eq]; simp at hj ⊢; omega
    have hmet : Met ((es.take i).foldl (fun Γ e => upd Γ e.1 e.2) Γ) (looks ops o) (v2 F w) a := by
      intro t ht' ψ hψ
      refine hinv.at_.sat t ψ ?_
      rw [← hψ, ← hgamlt]
      refine lk_gam es 0 Γ Γ rfl fun j e hej hdt => ?_
      obtain ⟨y, hy, hye⟩ := hes j e hej
      simp only [Nat.zero_add]
      by_cases hji : j = i
      · subst hji; rw [hunf]; exact (blt_self j).symm
      · have hc : clash ops o y = true := by
          unfold clash
          rw [← hye, hdt]
          simp [mem_looksT ht']
        rcases Nat.lt_or_gt_of_ne hji with hlt | hgt
        · rw [(hbefore j y hy hc).1 hlt]; exact (Nat.blt_eq ▸ hlt : Nat.blt j i = true).symm
        · rw [(hbefore j y hy hc).2 hgt]
          cases hq : Nat.blt j i with
          | false => rfl
          | true => rw [Nat.blt_eq] at hq; omega
    have hdst : ∀ k, o.dst = some k → k < n := by
      intro d hdd
      unfold dstsIn at hd
      rw [List.all_eq_true] at hd
      have := hd o (by simpa using Array.mem_of_getElem? ho)
      rw [hdd] at this
      simpa [Nat.blt_eq] using this
    have hnext : ∀ v w', Below w.heap.size w w' → φ.p (v2 F w') v → Inv n F ops es Γ (listed.setIfInBounds i true) (a.put o.dst v) w' := by
      intro v w' hbw hv
      have hil : i < listed.size := by rw [hinv.size]; exact hilt
      have hold := hinv.at_.step (φ := φ) (d := o.dst) (v := v) hbw hdst hv
      refine ⟨by simp [hinv.size], fun j hj q hq => ?_, ⟨hold.size, hold.defers, hold.own, fun t ψ hψ => ?_⟩⟩
      · rw [getD_set hil] at hj ⊢
        split
        · rfl
        · split at hj
          · rename_i hij
            subst hij
            obtain ⟨e, hea, heb, hec⟩ := masks_edge (l := ops.toList) (by simpa using ho) hq
            have hl : listed.getD e.on false = true := by
              have := hpre e (by simpa using hea)
              rw [heb] at this
              simpa using this
            rcases hec with rfl | hec
            · exact hl
            · exact hinv.closed _ hl _ hec
          · exact hinv.closed j hj q hq
      · refine hold.sat t ψ ?_
        rw [← hψ]
        by_cases hdt : o.dst = some t
        · rw [lk_upd, if_pos hdt]
          -- the slot that was written
          have e1 : gam (fun k => Nat.ble k i) es 0 Γ = upd ((es.take i).foldl (fun Γ e => upd Γ e.1 e.2) Γ) o.dst φ := by
            have hsplit : es = es.take i ++ (o.dst, φ) :: es.drop (i + 1) := by
              have h1 := List.take_append_drop i es
              have h2 : es.drop i = (o.dst, φ) :: es.drop (i + 1) := by
                obtain ⟨hlt, hh⟩ := List.getElem?_eq_some_iff.1 he
                rw [List.drop_eq_getElem_cons hlt, hh]
              rw [h2] at h1
              exact h1.symm
            conv => lhs; rw [hsplit, gam_append]
            have hle : (es.take i).length = i := by rw [List.length_take]; omega
            simp only [gam, hle, Nat.zero_add]
            rw [if_pos (by simp)]
            rw [gam_none _ _ _ (fun j _ => by
              cases hq : Nat.ble (i + 1 + j) i with
              | false => rfl
              | true => rw [Nat.ble_eq] at hq; omega)]
            congr 1
            exact gam_all _ _ _ fun j hj => by rw [Nat.ble_eq]; simp at hj ⊢; omega
          have e2 : lk (gam (fun k => Nat.ble k i) es 0 Γ) t = some φ := by rw [e1, lk_upd, if_pos hdt]
          rw [← e2]
          refine lk_gam es 0 Γ Γ rfl fun j e hej hdt' => ?_
          obtain ⟨y, hy, hye⟩ := hes j e hej
          simp only [Nat.zero_add]
          rw [getD_set hil]
          by_cases hji : i = j
          · subst hji; simp
          · rw [if_neg hji]
            have hc : clash ops o y = true := by
              unfold clash
              rw [hdt, ← hye, hdt']
              simp
            rcases Nat.lt_or_gt_of_ne hji with hgt | hlt
            · rw [(hbefore j y hy hc).2 hgt]
              cases hq : Nat.ble j i with
              | false => rfl
              | true => rw [Nat.ble_eq] at hq; omega
            · rw [(hbefore j y hy hc).1 hlt]; exact Nat.ble_eq_true_of_le (Nat.le_of_lt hlt)
        · rw [lk_upd, if_neg hdt]
          refine lk_gam es 0 Γ Γ rfl fun j e hej hdt' => ?_
          obtain ⟨y, hy, hye⟩ := hes j e hej
          simp only [Nat.zero_add]
          rw [getD_set hil]
          by_cases hji : i = j
          · subst hji
            rw [ho] at hy
            cases hy
            rw [hye] at hdt'
            exact absurd hdt' hdt
          · rw [if_neg hji]
    have hcount : ∃ m', (listed.setIfInBounds i true).toList.count false = m' ∧ m' ≤ fuel := by
      refine ⟨_, rfl, ?_⟩
      have hil : i < listed.toList.length := by simp [hinv.size, hilt]
      have hcs : (listed.setIfInBounds i true).toList = listed.toList.set i true := by simp
      rw [hcs]
      have := List.count_set (a := true) (b := false) (l := listed.toList) (i := i) hil
      rw [this]
      have hv : listed.toList[i] = false := by
        have := hun'
        rw [Array.getElem?_eq_getElem (by simpa using hil)] at this
        simpa using this
      have hpos : 0 < listed.toList.count false := List.count_pos_iff.2 (Array.mem_toList_iff.2 (Array.mem_of_getElem? hun'))
      have z1 : (if (listed.toList[i] == false) = true then 1 else 0) = 1 := by rw [hv]; rfl
      have z2 : (if (true == false) = true then 1 else 0) = 0 := rfl
      rw [z1, z2]
      omega
    unfold wpOp
    rw [ho]
    simp only []
    have hx := hsg.2 F w a (hT0.on hb) hinv.at_.own hmet
    split
    · rename_i hw
      rw [if_pos hw] at hx
      exact .inl (wp_of_ex (hx.mono fun v w' hk => ih _ _ _ (below_trans' hb hk.1) (hnext v w' hk.1 hk.2) hcount))
    · rename_i hw
      rw [if_neg hw] at hx
      exact ih _ _ _ hb (hnext undef w (Below.refl _ _) hx) hcount
section
variable {P : Program} {Γ : List (Nat × Pr)} {n : Nat} {F0 : Nat → Bool} {js : List Item} {w0 w : World} {a : Act} {ops : Array Oper} {Q : Exit → Act → World → Prop}
theorem st_regT (hT : TabT P w0) (hm : P.follows .mixedOrders = true) {id : Nat} (hok : regionOK n ops = true) (h : St n F0 js Γ w0 a w)
    (hs : SeqT P ops ops.toList Γ fun Γ' => ∀ a' w', St n F0 js Γ' w0 a' w' → Q .normal a' w') : (Code.region id ops true).wp P Q a w := by
  unfold regionOK at hok
  rw [Bool.and_eq_true, Bool.and_eq_true] at hok
  obtain ⟨⟨ht, he⟩, hd⟩ := hok
  refine wp_region_any hm ?_
  obtain ⟨es, hl, hk, hst⟩ := seqT_open hs
  have hwf : ∀ i o, ops[i]? = some o → ∀ e ∈ o.after.toList, Region.binds .any e = true → e.on < i := by
    intro i o ho e hea heb
    unfold edgesOK at he
    rw [List.all_eq_true] at he
    have := he i (List.mem_range.2 (Array.getElem?_eq_some_iff.1 ho).1)
    rw [ho] at this
    simp only [Option.map_some, Option.getD_some, Array.all_eq_true'] at this
    have := this e (by simpa using hea)
    rw [heb] at this
    simpa [Nat.blt_eq] using this
  have h0 : Below w.heap.size w { w with drawn := w.drawn + 1 } := (Below.refl _ _).drew
  refine wpAny_invT (n := n) (F := pf F0 (Its js)) (es := es) (Γ := Γ) (by simpa using hl) (fun i o ho => hst i o (by simpa using ho)) ht hd w (hT.on h.below) hwf (fun a' w' hb ha' => hk a' w' (h.grow hb ha')) ops.size _ a _ h0 ⟨by simp, fun j hj => ?_, ?_⟩ ⟨_, rfl, ?_⟩
  · simp [Array.getD_eq_getD_getElem?, Array.getElem?_replicate] at hj
    split at hj <;> simp at hj
  · rw [gam_none es 0 Γ (fun j _ => by simp [Array.getD_eq_getD_getElem?, Array.getElem?_replicate]; split <;> rfl)]
    exact ⟨h.at_.size, h.at_.defers, h.at_.own, h.at_.sat⟩
  · exact Nat.le_trans (List.count_le_length) (by simp)
end
section
variable {P : Program} {Γ : List (Nat × Pr)} {ops : Array Oper} {d : Nat} {t : TypeId} {ps : String} {af : Array Edge} {r : List Oper} {K : List (Nat × Pr) → Prop} {φ : Pr}
theorem ctg {op : Op} (h : StepP P op t Γ φ) (k : SeqT P ops r ((d, φ) :: Γ) K) (hs : ∀ cs b, op ≠ .select cs b := by intros; nofun) : SeqT P ops (⟨some d, op, t, ps, af, none⟩ :: r) Γ K := ⟨φ, (sg h hs).tab, k⟩
theorem ctc {f : FuncId} {xs : Array Operand} {ts : Array TypeId} {φs : List Pr} (he : Enters P f) (hc : CallT P f φs φ) (hx : OdL Γ xs.toList φs) (k : SeqT P ops r ((d, φ) :: Γ) K) :
    SeqT P ops (⟨some d, .call { callee := .value (.func f), args := xs, argTypes := ts }, t, ps, af, none⟩ :: r) Γ K := by
  refine ⟨φ, ⟨by intros; nofun, fun F w a hT hF hm => ?_⟩, k⟩
  simp only [Region.wanted, if_true]
  rw [exec_plain]
  have hfit := OdL.fit (hm.sub (xs := (Op.call { callee := .value (.func f), args := xs, argTypes := ts }).operands.toList) fun x hx => by simp [looks, hx]) hx (fun y hy => mem_call hy)
  refine ex_call (f := f) (vs := xs.toList.map a.eval) ?_ (hc F w _ hT hF hfit)
  have h0 : a.eval (.func f) = .func (.func f) #[] #[] := rfl
  have h1 : xs.map a.eval = (xs.toList.map a.eval).toArray := by rw [← Array.toList_map]
  simp [execOp, plain, resolve, h0, Deferred.ofValue, invoke, h1, he _ w]
theorem stn (h : K Γ) : SeqT P ops [] Γ K := h
end
end Go.Proofs.YtnnhmgcigoiceaaGreatDoor.Wh
