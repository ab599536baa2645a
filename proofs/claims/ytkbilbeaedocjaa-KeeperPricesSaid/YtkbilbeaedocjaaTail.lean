/-
  What is proved: regions whose last operations write, each standing in one order behind all others.
-/
import Derived.Test.YtkbilbeaedocjaaRegion
namespace Go.Proofs.Ytkbilbeaedocjaa.Wh
open Go Go.RowKit
theorem masks_lt {l : List Oper} (hwf : ∀ (i : Nat) (o : Oper), l[i]? = some o → ∀ e ∈ o.after.toList, Region.binds .any e = true → e.on < i) : ∀ (j i : Nat), j < l.length → ((masksFrom l []).getD j 0).testBit i = true → i < j := by
  intro j
  induction j using Nat.strongRecOn with
  | _ j ih =>
    intro i hj hb
    obtain ⟨e, hea, heb, hec⟩ := masks_edge (l := l) (List.getElem?_eq_getElem hj) hb
    have := hwf j l[j] (List.getElem?_eq_getElem hj) e hea heb
    rcases hec with rfl | hec
    · exact this
    · have := ih e.on this i (by omega) hec; omega
theorem wpAny_forced {P : Program} {ops : Array Oper} {Q : Exit → Act → World → Prop} {m : Nat} (htail : ∀ j, m ≤ j → j < ops.size → ∀ i, i < j → ((masksFrom ops.toList []).getD j 0).testBit i = true)
    (hwf : ∀ i o, ops[i]? = some o → ∀ e ∈ o.after.toList, Region.binds .any e = true → e.on < i) :
    ∀ (fuel : Nat) (listed : Array Bool) (a : Act) (w : World) (i : Nat), m ≤ i → i ≤ ops.size → listed.size = ops.size → (∀ j, j < ops.size → listed.getD j false = decide (j < i)) → ops.size - i ≤ fuel →
      wpList P ops Q (ops.toList.drop i) a w → wpAny P .any ops Q fuel listed a w := by
  have hwf' : ∀ (i : Nat) (o : Oper), ops.toList[i]? = some o → ∀ e ∈ o.after.toList, Region.binds .any e = true → e.on < i := fun i o h => hwf i o (by simpa using h)
  -- what is ready: the next one alone
  have hrd : ∀ (listed : Array Bool) (i : Nat), m ≤ i → listed.size = ops.size → (∀ j, j < ops.size → listed.getD j false = decide (j < i)) → ∀ r ∈ Region.ready .any ops listed, r = i := by
    intro listed i hmi hs hl r hr
    unfold Region.ready at hr
    rw [List.mem_filter, List.mem_range, Bool.and_eq_true] at hr
    obtain ⟨hrlt, hun, hpre⟩ := hr
    have hrun : listed.getD r false = false := by
      rw [Array.getD_eq_getD_getElem?] at hun ⊢
      rw [Array.getElem?_eq_getElem (by omega)] at hun ⊢
      simpa using hun
    rw [hl r hrlt] at hrun
    have hge : i ≤ r := by have := of_decide_eq_false hrun; omega
    rcases Nat.lt_or_ge i r with hlt | _
    case inr => omega
    exfalso
    have ho : ops[r]? = some ops[r] := Array.getElem?_eq_getElem hrlt
    rw [ho] at hpre
    simp only [Option.map_some, Option.getD_some, Array.all_eq_true'] at hpre
    obtain ⟨e, hea, heb, hec⟩ := masks_edge (l := ops.toList) (o := ops[r]) (by rw [Array.getElem?_toList]; exact ho) (htail r (by omega) hrlt i hlt)
    have helt := hwf r ops[r] ho e hea heb
    have hle : listed.getD e.on false = true := by
      have := hpre e (by simpa using hea)
      rw [heb] at this
      simpa using this
    rw [hl e.on (by omega)] at hle
    have hei : e.on < i := of_decide_eq_true hle
    rcases hec with hec | hec
    · omega
    · have := masks_lt hwf' e.on i (by simp; omega) hec
      omega
  have hnone : ∀ (listed : Array Bool) (i : Nat), i < ops.size → listed.size = ops.size → (∀ j, j < ops.size → listed.getD j false = decide (j < i)) → i ∈ Region.ready .any ops listed := by
    intro listed i hi hs hl
    unfold Region.ready
    rw [List.mem_filter, List.mem_range, Bool.and_eq_true]
    refine ⟨hi, ?_, ?_⟩
    · have := hl i hi
      rw [Array.getD_eq_getD_getElem?, Array.getElem?_eq_getElem (by omega)] at this ⊢
      simp at this ⊢
      exact this
    · have ho : ops[i]? = some ops[i] := Array.getElem?_eq_getElem hi
      rw [ho]
      simp only [Option.map_some, Option.getD_some, Array.all_eq_true']
      intro e he
      cases hbd : Region.binds .any e with
      | false => simp
      | true =>
        have hlt := hwf i ops[i] ho e (by simpa using he) hbd
        simp [hl e.on (by omega), hlt]
  intro fuel
  induction fuel with
  | zero =>
    intro listed a w i hmi hi hs hl hf hk
    have hi' : i = ops.size := by omega
    have hr : Region.ready .any ops listed = [] := by
      cases h : Region.ready .any ops listed with
      | nil => rfl
      | cons r t =>
        have hmem : r ∈ Region.ready .any ops listed := by rw [h]; exact List.mem_cons_self
        have := hrd listed i hmi hs hl r hmem
        unfold Region.ready at hmem
        rw [List.mem_filter, List.mem_range] at hmem
        omega
    rw [List.drop_eq_nil_of_le (by simp [hi'])] at hk
    exact ⟨hr, hk⟩
  | succ fuel ih =>
    intro listed a w i hmi hi hs hl hf hk
    refine ⟨fun hr => ?_, fun r hr => ?_⟩
    · rcases Nat.lt_or_ge i ops.size with hlt | hge
      · have := hnone listed i hlt hs hl
        rw [hr] at this; cases this
      · rw [List.drop_eq_nil_of_le (by simp; omega)] at hk
        exact hk
    · have hri := hrd listed i hmi hs hl r hr
      subst hri
      have hlt : r < ops.size := by
        unfold Region.ready at hr
        rw [List.mem_filter, List.mem_range] at hr
        exact hr.1
      have ho : ops[r]? = some ops[r] := Array.getElem?_eq_getElem hlt
      have hdrop : ops.toList.drop r = ops[r] :: ops.toList.drop (r + 1) := by
        rw [List.drop_eq_getElem_cons (by simpa using hlt)]; simp
      rw [hdrop] at hk
      have hnext : ∀ a' w', wpList P ops Q (ops.toList.drop (r + 1)) a' w' → wpAny P .any ops Q fuel (listed.setIfInBounds r true) a' w' := fun a' w' h =>
        ih _ a' w' (r + 1) (by omega) (by omega) (by simp [hs]) (fun j hj => by
          rw [getD_set (by omega), hl j hj]
          by_cases hjr : r = j
          · subst hjr; simp
          · rw [if_neg hjr]
            by_cases h1 : j < r
            · have h2 : j < r + 1 := by omega
              simp [h1, h2]
            · have h2 : ¬ j < r + 1 := by omega
              simp [h1, h2]) (by omega) h
      unfold wpOp
      rw [ho]
      simp only []
      unfold wpList at hk
      split
      · rename_i hw
        rw [if_pos hw] at hk
        exact hk.imp (Oper.wp_mono hnext) id
      · rename_i hw
        rw [if_neg hw] at hk
        exact hnext _ _ hk
theorem wpAny_tail {P : Program} {ops : Array Oper} {Q : Exit → Act → World → Prop} {n : Nat} {F : Nat → Bool} {es : List (Option Tmp × Pr)} {Γ : List (Nat × Pr)} {m : Nat} (hmle : m ≤ ops.size) (hlen : es.length = m)
    (hst : ∀ i o, i < m → ops[i]? = some o → ∃ φ, es[i]? = some (o.dst, φ) ∧ StepG P ops o ((es.take i).foldl (fun Γ e => upd Γ e.1 e.2) Γ) φ)
    (ht : tempsOK ops = true) (hd : dstsIn n ops.toList = true) (w0 : World) (hwf : ∀ i o, ops[i]? = some o → ∀ e ∈ o.after.toList, Region.binds .any e = true → e.on < i)
    (htail : ∀ j, m ≤ j → j < ops.size → ∀ i, i < j → ((masksFrom ops.toList []).getD j 0).testBit i = true)
    (k : ∀ a w, Below w0.heap.size w0 w → At n F (es.foldl (fun Γ e => upd Γ e.1 e.2) Γ) a w → wpList P ops Q (ops.toList.drop m) a w) :
    ∀ (fuel : Nat) (listed : Array Bool) (a : Act) (w : World), Below w0.heap.size w0 w → Inv n F ops es Γ listed a w → (∀ j, m ≤ j → listed.getD j false = false) → (∃ q, listed.toList.count false = q ∧ q ≤ fuel) →
      wpAny P .any ops Q fuel listed a w := by
  -- if nothing is ready, all is done
  have hready : ∀ listed : Array Bool, listed.size = ops.size → Region.ready .any ops listed = [] → ∀ i, i < ops.size → listed.getD i false = true := by
    intro listed hs hr i
    induction i using Nat.strongRecOn with
    | _ i ih =>
      intro hi
      cases hb : listed.getD i false with
      | true => rfl
      | false =>
        exfalso
        have hb' : listed.getD i true = false := by
          rw [Array.getD_eq_getD_getElem?] at hb ⊢
          rw [Array.getElem?_eq_getElem (by omega)] at hb ⊢
          simpa using hb
        have : i ∈ Region.ready .any ops listed := by
          unfold Region.ready
          rw [List.mem_filter]
          refine ⟨List.mem_range.2 hi, ?_⟩
          rw [hb', Array.getElem?_eq_getElem hi]
          simp only [Bool.not_false, Option.map_some, Option.getD_some, Bool.true_and]
          rw [Array.all_eq_true']
          intro e he
          cases hbd : Region.binds .any e with
          | false => simp
          | true =>
            have hlt := hwf i ops[i] (Array.getElem?_eq_getElem hi) e (by simpa using he) hbd
            simp [ih e.on hlt (by omega)]
        rw [hr] at this
        cases this
  have hfin : ∀ (listed : Array Bool) (a : Act) (w : World), Below w0.heap.size w0 w → Inv n F ops es Γ listed a w → (∀ j, m ≤ j → listed.getD j false = false) → Region.ready .any ops listed = [] → Q .normal a w := by
    intro listed a w hb hinv hun hr
    have hm : m = ops.size := by
      rcases Nat.lt_or_ge m ops.size with h | h
      · have h1 := hready listed hinv.size hr m h
        have h2 := hun m (Nat.le_refl _)
        rw [h1] at h2; cases h2
      · omega
    have := k a w hb (by
      have := hinv.at_
      rwa [gam_all es 0 Γ (fun j hj => by simpa using hready listed hinv.size hr j (by omega))] at this)
    rw [List.drop_eq_nil_of_le (by simp [hm])] at this
    exact this
  intro fuel
  induction fuel with
  | zero =>
    intro listed a w hb hinv hunl ⟨q, hq, hle⟩
    have h0 : listed.toList.count false = 0 := by omega
    have hall : ∀ i, listed.getD i true = true := by
      intro i
      cases hq : listed.getD i true with
      | true => rfl
      | false =>
        have : false ∈ listed.toList := by
          rw [Array.getD_eq_getD_getElem?] at hq
          cases hl : listed[i]? with
          | none => rw [hl] at hq; simp at hq
          | some b => rw [hl] at hq; simp at hq; subst hq; exact Array.mem_toList_iff.2 (Array.mem_of_getElem? hl)
        exact absurd (List.count_pos_iff.2 this) (by omega)
    have hr : Region.ready .any ops listed = [] := by
      unfold Region.ready
      rw [List.filter_eq_nil_iff]
      intro i _
      simp [hall i]
    exact ⟨hr, hfin listed a w hb hinv hunl hr⟩
  | succ fuel ih =>
    intro listed a w hb hinv hunl ⟨q, hq, hle⟩
    refine ⟨fun hr => hfin listed a w hb hinv hunl hr, fun i hi => ?_⟩
    have hi0 := hi
    unfold Region.ready at hi
    rw [List.mem_filter, List.mem_range] at hi
    obtain ⟨hilt, hi⟩ := hi
    rw [Bool.and_eq_true] at hi
    obtain ⟨hun, hpre⟩ := hi
    have hun' : listed[i]? = some false := by
      rw [Array.getD_eq_getD_getElem?] at hun
      have hl : i < listed.size := by rw [hinv.size]; exact hilt
      rw [Array.getElem?_eq_getElem hl] at hun ⊢
      simpa using hun
    have hunf : listed.getD i false = false := by rw [Array.getD_eq_getD_getElem?, hun']; rfl
    have ho : ops[i]? = some ops[i] := Array.getElem?_eq_getElem hilt
    generalize ops[i] = o at ho
    rw [ho] at hpre
    simp only [Option.map_some, Option.getD_some, Array.all_eq_true'] at hpre
    -- the tail begins
    have htl : m ≤ i → wpOp P ops Q i (wpAny P .any ops Q fuel (listed.setIfInBounds i true)) a w := by
      intro hmi
      have hbefore : ∀ j, j < i → listed.getD j false = true := by
        intro j hji
        obtain ⟨e, hea, heb, hec⟩ := masks_edge (l := ops.toList) (by simpa using ho) (htail i hmi hilt j hji)
        have hl : listed.getD e.on false = true := by
          have := hpre e (by simpa using hea)
          rw [heb] at this
          simpa using this
        rcases hec with rfl | hec
        · exact hl
        · exact hinv.closed _ hl _ hec
      have him : i = m := by
        rcases Nat.lt_or_ge m i with h | h
        · have h1 := hbefore m h
          rw [hunl m (Nat.le_refl _)] at h1; cases h1
        · omega
      subst him
      have hk := k a w hb (by
        have := hinv.at_
        rwa [gam_all es 0 Γ (fun j hj => by simpa using hbefore j (by omega))] at this)
      have hany := wpAny_forced (P := P) (Q := Q) htail hwf (fuel + 1) listed a w i (Nat.le_refl _) hmle hinv.size (fun j hj => by
        by_cases hji : j < i
        · rw [hbefore j hji]; simp [hji]
        · rw [hunl j (by omega)]; simp [hji]) (by
          have hc : listed.toList.count false ≤ fuel + 1 := by omega
          have : (listed.toList.drop i).count false = ops.size - i := by
            have hall : ∀ x ∈ listed.toList.drop i, x = false := by
              intro x hx
              obtain ⟨p, hp, hxe⟩ := List.getElem_of_mem hx
              rw [List.getElem_drop] at hxe
              have hpl : i + p < listed.size := by simp at hp; omega
              have := hunl (i + p) (by omega)
              rw [Array.getD_eq_getD_getElem?, Array.getElem?_eq_getElem hpl] at this
              simp at this
              rw [← hxe]; simpa using this
            have h2 : (listed.toList.drop i).count false = (listed.toList.drop i).length := List.count_eq_length.2 (fun x hx => (hall x hx).symm)
            rw [h2]; simp [hinv.size]
          have h3 : (listed.toList.drop i).count false ≤ listed.toList.count false := List.Sublist.count_le _ (List.drop_sublist _ _)
          omega) hk
      exact hany.2 i hi0
    rcases Nat.lt_or_ge i m with him | him
    case inr => exact htl him
    obtain ⟨φ, he, hsg⟩ := hst i o him ho
    -- what is ordered
    have hbefore : ∀ (j : Nat) (y : Oper), ops[j]? = some y → clash ops o y = true → (j < i → listed.getD j false = true) ∧ (i < j → listed.getD j false = false) := by
      intro j y hy hc
      refine ⟨fun hji => ?_, fun hij => ?_⟩
      · have hbit := tempsOK_at ht ho hy hji hc
        obtain ⟨e, hea, heb, hec⟩ := masks_edge (l := ops.toList) (by simpa using ho) hbit
        have hl : listed.getD e.on false = true := by
          have := hpre e (by simpa using hea)
          rw [heb] at this
          simpa using this
        rcases hec with rfl | hec
        · exact hl
        · exact hinv.closed _ hl _ hec
      · cases hq : listed.getD j false with
        | false => rfl
        | true =>
          have hbit := tempsOK_at ht hy ho hij (clash_symm ops _ _ hc)
          have := hinv.closed j hq i hbit
          rw [hunf] at this
          cases this
    have hes : ∀ (j : Nat) (e : Option Tmp × Pr), es[j]? = some e → ∃ y : Oper, ops[j]? = some y ∧ e.1 = y.dst := by
      intro j e hej
      have hjm : j < m := by rw [← hlen]; exact (List.getElem?_eq_some_iff.1 hej).1
      have hj : j < ops.size := by omega
      obtain ⟨ψ, h1, _⟩ := hst j ops[j] hjm (Array.getElem?_eq_getElem hj)
      rw [h1] at hej
      exact ⟨ops[j], Array.getElem?_eq_getElem hj, by cases hej; rfl⟩
    have hgamlt : gam (fun k => Nat.blt k i) es 0 Γ = (es.take i).foldl (fun Γ e => upd Γ e.1 e.2) Γ := by
      conv => lhs; rw [← List.take_append_drop i es, gam_append]
      rw [gam_none _ _ _ (fun j _ => by
        rw [List.length_take, Nat.min_eq_left (by omega)]
        cases hq : Nat.blt (0 + i + j) i with
        | false => rfl
        | true => rw [Nat.blt_eq] at hq; omega)]
      exact gam_all _ _ _ fun j hj => by rw [Nat.blt_eq]; simp at hj ⊢; omega
    have hmet : Met ((es.take i).foldl (fun Γ e => upd Γ e.1 e.2) Γ) (looks ops o) (v2 F w) a := by
      intro t ht' ψ hψ
      refine hinv.at_.sat t ψ ?_
      rw [← hψ, ← hgamlt]
      refine lk_gam es 0 Γ Γ rfl fun j e hej hdt => ?_
      obtain ⟨y, hy, hye⟩ := hes j e hej
      simp only [Nat.zero_add]
      by_cases hji : j = i
      · subst hji; rw [hunf]; exact (blt_self j).symm
      · have hc : clash ops o y = true := by
          unfold clash
          rw [← hye, hdt]
          simp [mem_looksT ht']
        rcases Nat.lt_or_gt_of_ne hji with hlt | hgt
        · rw [(hbefore j y hy hc).1 hlt]; exact (Nat.blt_eq ▸ hlt : Nat.blt j i = true).symm
        · rw [(hbefore j y hy hc).2 hgt]
          cases hq : Nat.blt j i with
          | false => rfl
          | true => rw [Nat.blt_eq] at hq; omega
    have hdst : ∀ k, o.dst = some k → k < n := by
      intro d hdd
      unfold dstsIn at hd
      rw [List.all_eq_true] at hd
      have := hd o (by simpa using Array.mem_of_getElem? ho)
      rw [hdd] at this
      simpa [Nat.blt_eq] using this
    have hnext : ∀ v w', Below w.heap.size w w' → φ.p (v2 F w') v → Inv n F ops es Γ (listed.setIfInBounds i true) (a.put o.dst v) w' := by
      intro v w' hbw hv
      have hil : i < listed.size := by rw [hinv.size]; exact hilt
      have hold := hinv.at_.step (φ := φ) (d := o.dst) (v := v) hbw hdst hv
      refine ⟨by simp [hinv.size], fun j hj q hq => ?_, ⟨hold.size, hold.defers, hold.own, fun t ψ hψ => ?_⟩⟩
      · rw [getD_set hil] at hj ⊢
        split
        · rfl
        · split at hj
          · rename_i hij
            subst hij
            obtain ⟨e, hea, heb, hec⟩ := masks_edge (l := ops.toList) (by simpa using ho) hq
            have hl : listed.getD e.on false = true := by
              have := hpre e (by simpa using hea)
              rw [heb] at this
              simpa using this
            rcases hec with rfl | hec
            · exact hl
            · exact hinv.closed _ hl _ hec
          · exact hinv.closed j hj q hq
      · refine hold.sat t ψ ?_
        rw [← hψ]
        by_cases hdt : o.dst = some t
        · rw [lk_upd, if_pos hdt]
          -- the slot that was written
          have e1 : gam (fun k => Nat.ble k i) es 0 Γ = upd ((es.take i).foldl (fun Γ e => upd Γ e.1 e.2) Γ) o.dst φ := by
            have hsplit : es = es.take i ++ (o.dst, φ) :: es.drop (i + 1) := by
              have h1 := List.take_append_drop i es
              have h2 : es.drop i = (o.dst, φ) :: es.drop (i + 1) := by
                obtain ⟨hlt, hh⟩ := List.getElem?_eq_some_iff.1 he
                rw [List.drop_eq_getElem_cons hlt, hh]
              rw [h2] at h1
              exact h1.symm
            conv => lhs; rw [hsplit, gam_append]
            have hle : (es.take i).length = i := by rw [List.length_take]; omega
            simp only [gam, hle, Nat.zero_add]
            rw [if_pos (by simp)]
            rw [gam_none _ _ _ (fun j _ => by
              cases hq : Nat.ble (i + 1 + j) i with
              | false => rfl
              | true => rw [Nat.ble_eq] at hq; omega)]
            congr 1
            exact gam_all _ _ _ fun j hj => by rw [Nat.ble_eq]; simp at hj ⊢; omega
          have e2 : lk (gam (fun k => Nat.ble k i) es 0 Γ) t = some φ := by rw [e1, lk_upd, if_pos hdt]
          rw [← e2]
          refine lk_gam es 0 Γ Γ rfl fun j e hej hdt' => ?_
          obtain ⟨y, hy, hye⟩ := hes j e hej
          simp only [Nat.zero_add]
          rw [getD_set hil]
          by_cases hji : i = j
          · subst hji; simp
          · rw [if_neg hji]
            have hc : clash ops o y = true := by
              unfold clash
              rw [hdt, ← hye, hdt']
              simp
            rcases Nat.lt_or_gt_of_ne hji with hgt | hlt
            · rw [(hbefore j y hy hc).2 hgt]
              cases hq : Nat.ble j i with
              | false => rfl
              | true => rw [Nat.ble_eq] at hq; omega
            · rw [(hbefore j y hy hc).1 hlt]; exact Nat.ble_eq_true_of_le (Nat.le_of_lt hlt)
        · rw [lk_upd, if_neg hdt]
          refine lk_gam es 0 Γ Γ rfl fun j e hej hdt' => ?_
          obtain ⟨y, hy, hye⟩ := hes j e hej
          simp only [Nat.zero_add]
          rw [getD_set hil]
          by_cases hji : i = j
          · subst hji
            rw [ho] at hy
            cases hy
            rw [hye] at hdt'
            exact absurd hdt' hdt
          · rw [if_neg hji]
    have hcount : ∃ m', (listed.setIfInBounds i true).toList.count false = m' ∧ m' ≤ fuel := by
      refine ⟨_, rfl, ?_⟩
      have hil : i < listed.toList.length := by simp [hinv.size, hilt]
      have hcs : (listed.setIfInBounds i true).toList = listed.toList.set i true := by simp
      rw [hcs]
      have := List.count_set (a := true) (b := false) (l := listed.toList) (i := i) hil
      rw [this]
      have hv : listed.toList[i] = false := by
        have := hun'
        rw [Array.getElem?_eq_getElem (by simpa using hil)] at this
        simpa using this
      have hpos : 0 < listed.toList.count false := List.count_pos_iff.2 (Array.mem_toList_iff.2 (Array.mem_of_getElem? hun'))
      have z1 : (if (listed.toList[i] == false) = true then 1 else 0) = 1 := by rw [hv]; rfl
      have z2 : (if (true == false) = true then 1 else 0) = 0 := rfl
      rw [z1, z2]
      omega
    have hunl' : ∀ j, m ≤ j → (listed.setIfInBounds i true).getD j false = false := by
      intro j hj
      rw [getD_set (by rw [hinv.size]; exact hilt), if_neg (by omega)]
      exact hunl j hj
    unfold wpOp
    rw [ho]
    simp only []
    have hx := hsg.2 F w a hinv.at_.own hmet
    split
    · rename_i hw
      rw [if_pos hw] at hx
      exact .inl (wp_of_ex (hx.mono fun v w' hk => ih _ _ _ (below_trans' hb hk.1) (hnext v w' hk.1 hk.2) hunl' hcount))
    · rename_i hw
      rw [if_neg hw] at hx
      exact ih _ _ _ hb (hnext undef w (Below.refl _ _) hx) hunl' hcount

def tailOK (m : Nat) (ops : Array Oper) : Bool := let M := masksFrom ops.toList []; Nat.ble m ops.size && (List.range ops.size).all fun j => Nat.blt j m || (List.range j).all fun i => (M.getD j 0).testBit i
/-- **A region whose last operations stand in one order behind all others.** -/
theorem wp_tail {P : Program} (hm : P.follows .mixedOrders = true) {id n m : Nat} {ops : Array Oper} {draw : Bool} {Q : Exit → Act → World → Prop} {F : Nat → Bool} {Γ Γ' : List (Nat × Pr)} {a : Act} {w : World}
    (hok : regionOK n ops = true) (htl : tailOK m ops = true) (hs : SeqOK P ops (ops.toList.take m) Γ Γ') (ha : At n F Γ a w) (k : ∀ a' w', Below w.heap.size w w' → At n F Γ' a' w' → wpList P ops Q (ops.toList.drop m) a' w') : (Code.region id ops draw).wp P Q a w := by
  unfold regionOK at hok
  rw [Bool.and_eq_true, Bool.and_eq_true] at hok
  obtain ⟨⟨ht, he⟩, hd⟩ := hok
  unfold tailOK at htl
  rw [Bool.and_eq_true, List.all_eq_true] at htl
  obtain ⟨hmle, htl⟩ := htl
  have hmle := Nat.le_of_ble_eq_true hmle
  have htail : ∀ j, m ≤ j → j < ops.size → ∀ i, i < j → ((masksFrom ops.toList []).getD j 0).testBit i = true := by
    intro j hj hjs i hi
    have := htl j (List.mem_range.2 hjs)
    rw [Bool.or_eq_true] at this
    rcases this with h | h
    · rw [Nat.blt_eq] at h; omega
    · rw [List.all_eq_true] at h; exact h i (List.mem_range.2 hi)
  have hdt : dstsIn n (ops.toList.take m) = true := by
    unfold dstsIn at hd ⊢
    rw [List.all_eq_true] at hd ⊢
    exact fun o ho => hd o (List.mem_of_mem_take ho)
  cases draw with
  | false =>
    refine wp_region_list ?_
    have := wpList_seq (P := P) (ops := ops) (Q := Q) (rest := ops.toList.drop m) hs hdt ha (fun a' w' hb ha' => k a' w' hb ha')
    rwa [List.take_append_drop] at this
  | true =>
    refine wp_region_any hm ?_
    obtain ⟨es, hl, hf, hst⟩ := seq_open hs
    subst hf
    have hwf : ∀ i o, ops[i]? = some o → ∀ e ∈ o.after.toList, Region.binds .any e = true → e.on < i := by
      intro i o ho e hea heb
      unfold edgesOK at he
      rw [List.all_eq_true] at he
      have := he i (List.mem_range.2 (Array.getElem?_eq_some_iff.1 ho).1)
      rw [ho] at this
      simp only [Option.map_some, Option.getD_some, Array.all_eq_true'] at this
      have := this e (by simpa using hea)
      rw [heb] at this
      simpa [Nat.blt_eq] using this
    have h0 : Below w.heap.size w { w with drawn := w.drawn + 1 } := (Below.refl _ _).drew
    have hlm : es.length = m := by rw [hl, List.length_take]; simp; omega
    refine wpAny_tail (n := n) (F := F) (es := es) (Γ := Γ) hmle hlm (fun i o him ho => hst i o (by rw [List.getElem?_take, if_pos him]; simpa using ho)) ht hd w hwf htail k ops.size _ a _ h0 ⟨by simp, fun j hj => ?_, ?_⟩ (fun j _ => ?_) ⟨_, rfl, ?_⟩
    · simp [Array.getD_eq_getD_getElem?, Array.getElem?_replicate] at hj
      split at hj <;> simp at hj
    · rw [gam_none es 0 Γ (fun j _ => by simp [Array.getD_eq_getD_getElem?, Array.getElem?_replicate]; split <;> rfl)]
      exact ⟨ha.size, ha.defers, ha.own, ha.sat⟩
    · simp [Array.getD_eq_getD_getElem?, Array.getElem?_replicate]; split <;> rfl
    · exact Nat.le_trans (List.count_le_length) (by simp)
end Go.Proofs.Ytkbilbeaedocjaa.Wh
