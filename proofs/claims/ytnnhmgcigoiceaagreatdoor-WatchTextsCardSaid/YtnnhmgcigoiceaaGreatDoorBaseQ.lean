/-
  What is proved: a region that draws, with operations that write in more than one order: each order is walked.
-/
import Derived.Test.YtnnhmgcigoiceaaGreatDoorBaseP
namespace Go.Proofs.YtnnhmgcigoiceaaGreatDoor.Wh
open Go Go.RowKit

def floatO (ks : List Nat) (ops : Array Oper) : Bool :=
  let M := masksFrom ops.toList []
  Nat.beq ks.length ops.size && Region.noSelect ops && (List.range ops.size).all fun j =>
    match kd ks j with
    | 0 => (List.range ops.size).all fun i => Nat.blt (kd ks i) 2 || !((M.getD j 0).testBit i)
    | 1 => (List.range ops.size).all fun k => (Nat.blt (kd ks k) 2 || !((M.getD j 0).testBit k)) &&
        (Nat.beq k j || Nat.beq (kd ks k) 0 || (Nat.beq (kd ks k) 1 && Nat.blt k j) || match ops[j]?, ops[k]? with
          | some oj, some ok => ok.after.any (fun e => Region.binds .any e && e.on == j) || oj.apart ops ok
          | _, _ => true)
    | _ => (List.range ops.size).all fun i => !(Nat.beq (kd ks i) 0) || (M.getD j 0).testBit i
theorem floatO_spec {ks : List Nat} {ops : Array Oper} (h : floatO ks ops = true) : FloatO ks ops := by
  unfold floatO at h
  rw [Bool.and_eq_true, Bool.and_eq_true, List.all_eq_true] at h
  obtain ⟨⟨h1, h2⟩, h3⟩ := h
  refine ⟨Nat.eq_of_beq_eq_true h1, h2, fun j hj hk i hi hki => ?_, fun j hj hk k oj ok hoj hok hkj hk0 hk1 hno => ?_, fun j hj hk i hi h0 => ?_⟩
  · have := h3 j (List.mem_range.2 hj)
    have hnb : Nat.blt (kd ks i) 2 = false := by
      cases hq : Nat.blt (kd ks i) 2 with
      | false => rfl
      | true => rw [Nat.blt_eq] at hq; omega
    cases hkj : kd ks j with
    | zero =>
      rw [hkj] at this
      simp only [List.all_eq_true] at this
      have := this i (List.mem_range.2 hi)
      simpa [hnb] using this
    | succ q =>
      cases q with
      | zero =>
        rw [hkj] at this
        simp only [Nat.zero_add, List.all_eq_true] at this
        have := this i (List.mem_range.2 hi)
        rw [Bool.and_eq_true] at this
        simpa [hnb] using this.1
      | succ q => omega
  · have := h3 j (List.mem_range.2 hj)
    rw [hk] at this
    simp only [List.all_eq_true] at this
    have hklt : k < ops.size := (Array.getElem?_eq_some_iff.1 hok).1
    have := this k (List.mem_range.2 hklt)
    rw [Bool.and_eq_true, hoj, hok] at this
    have := this.2
    simp only [Bool.or_eq_true] at this
    rcases this with ((h | h) | h) | (h | h)
    · exact absurd (Nat.eq_of_beq_eq_true h) hkj
    · exact absurd (Nat.eq_of_beq_eq_true h) hk0
    · rw [Bool.and_eq_true] at h
      have e1 := Nat.eq_of_beq_eq_true h.1
      have e2 := h.2
      rw [Nat.blt_eq] at e2
      have := hk1 e1
      omega
    · obtain ⟨e, he, hb⟩ := Array.any_eq_true'.1 h
      simp only [Bool.and_eq_true, beq_iff_eq] at hb
      exact absurd hb.2 (hno e he hb.1)
    · exact h
  · have := h3 j (List.mem_range.2 hj)
    obtain ⟨q, hq⟩ : ∃ q, kd ks j = q + 2 := ⟨kd ks j - 2, by omega⟩
    rw [hq] at this
    simp only [List.all_eq_true] at this
    have := this i (List.mem_range.2 hi)
    rw [Bool.or_eq_true] at this
    rcases this with h | h
    · rw [h0] at h; simp at h
    · exact h
/-- Of those that are left: which can be next. -/
def rdyT (ops : Array Oper) (T : List Nat) : List Nat := T.filter fun i => T.all fun j => Nat.beq i j || !((masksFrom ops.toList []).getD i 0).testBit j
def wpAnyT (P : Program) (ops : Array Oper) (S : World → Prop) (Q : Act → World → Prop) : Nat → List Nat → Act → World → Prop
  | 0, _, a, w => Q a w
  | m + 1, T, a, w => ∀ i ∈ rdyT ops T, ∀ o, ops[i]? = some o → wpList P ops (fun e a' w' => e = .normal ∧ S w' ∧ wpAnyT P ops S Q m (T.erase i) a' w') [o] a w
def AllR (P : Program) (ops : Array Oper) (S : World → Prop) (K : Nat → Act → World → Prop) : List Nat → Act → World → Prop
  | [], _, _ => True
  | i :: r, a, w => (∀ o, ops[i]? = some o → wpList P ops (fun e a' w' => e = .normal ∧ S w' ∧ K i a' w') [o] a w) ∧ AllR P ops S K r a w
theorem allR_mem {P : Program} {ops : Array Oper} {S : World → Prop} {K : Nat → Act → World → Prop} {a : Act} {w : World} : ∀ {l : List Nat}, AllR P ops S K l a w → ∀ i ∈ l, ∀ o, ops[i]? = some o → wpList P ops (fun e a' w' => e = .normal ∧ S w' ∧ K i a' w') [o] a w
  | _ :: _, h, i, hi, o, ho => by
    rcases List.mem_cons.1 hi with rfl | hi
    · exact h.1 o ho
    · exact allR_mem h.2 i hi o ho
theorem anyT_of {P : Program} {ops : Array Oper} {S : World → Prop} {Q : Act → World → Prop} {a : Act} {w : World} {m : Nat} {T : List Nat} (is : List Nat) (hr : rdyT ops T = is) (h : AllR P ops S (fun i => wpAnyT P ops S Q m (T.erase i)) is a w) : wpAnyT P ops S Q (m + 1) T a w := by
  subst hr
  exact allR_mem h
theorem allR_cons {P : Program} {ops : Array Oper} {S : World → Prop} {K : Nat → Act → World → Prop} {a : Act} {w : World} {i : Nat} {o : Oper} {r : List Nat} (ho : ops[i]? = some o) (h : wpList P ops (fun e a' w' => e = .normal ∧ S w' ∧ K i a' w') [o] a w) (h2 : AllR P ops S K r a w) : AllR P ops S K (i :: r) a w :=
  ⟨fun o' ho' => by rw [ho] at ho'; cases ho'; exact h, h2⟩
theorem allR_nil {P : Program} {ops : Array Oper} {S : World → Prop} {K : Nat → Act → World → Prop} {a : Act} {w : World} : AllR P ops S K [] a w := trivial
theorem anyT_done {P : Program} {ops : Array Oper} {S : World → Prop} {Q : Act → World → Prop} {a : Act} {w : World} {T : List Nat} (h : Q a w) : wpAnyT P ops S Q 0 T a w := h
section
variable {P : Program} {ops : Array Oper}
theorem wpAnyH_any {ks : List Nat} (hf : FloatO ks ops) {S : World → Prop} {Q : Act → World → Prop} (hwf : ∀ i o, ops[i]? = some o → ∀ e ∈ o.after.toList, Region.binds .any e = true → e.on < i) :
    ∀ (m : Nat) (T : List Nat) (fuel : Nat) (listed : Array Bool) (a : Act) (w : World), T.length = m → T.Nodup → (∀ j ∈ T, j < ops.size ∧ 1 < kd ks j) → listed.size = ops.size → (∀ j, j < ops.size → (listed.getD j false = true ↔ j ∉ T)) →
      (∀ q, q < ops.size → listed.getD q false = true → ∀ j, ((masksFrom ops.toList []).getD q 0).testBit j = true → listed.getD j false = true) →
      listed.toList.count false ≤ fuel → wpAnyT P ops S Q m T a w → wpAnyH P .any ops (fun e a w => e = .normal ∧ Q a w) S fuel listed a w := by
  have hwf' : ∀ (i : Nat) (o : Oper), ops.toList[i]? = some o → ∀ e ∈ o.after.toList, Region.binds .any e = true → e.on < i := fun i o h => hwf i o (by simpa using h)
  intro m
  induction m with
  | zero =>
    intro T fuel listed a w hT _ _ hs hl _ hc h
    have hT0 : T = [] := List.eq_nil_of_length_eq_zero hT
    subst hT0
    have hrd : Region.ready .any ops listed = [] := by
      unfold Region.ready
      rw [List.filter_eq_nil_iff]
      intro j hj
      have hj := List.mem_range.1 hj
      rw [getD_tf (by omega), (hl j hj).2 (by simp)]
      simp
    exact wpAnyH_done hrd ⟨rfl, h⟩ fuel
  | succ m ih =>
    intro T fuel listed a w hT hnd hTk hs hl hcl hc h
    have hne : ∃ j, j ∈ T := by
      cases T with
      | nil => simp at hT
      | cons x r => exact ⟨x, List.mem_cons_self⟩
    obtain ⟨j0, hj0⟩ := hne
    obtain ⟨i, hi, hmin⟩ := least_of (p := fun j => j ∈ T) j0 hj0
    have hlt := (hTk i hi).1
    have hun : ∀ j ∈ T, listed.getD j false = false := fun j hj => by
      cases hq : listed.getD j false with
      | false => rfl
      | true => exact absurd hj ((hl j (hTk j hj).1).1 hq)
    have hmem : i ∈ Region.ready .any ops listed := by
      rw [mem_ready]
      refine ⟨by rw [getD_tf (by omega)]; exact hun i hi, _, Array.getElem?_eq_getElem hlt, fun e he hb => ?_⟩
      have h1 := hwf i _ (Array.getElem?_eq_getElem hlt) e (by simpa using he) hb
      exact (hl e.on (by omega)).2 (hmin e.on h1)
    obtain ⟨fuel, rfl⟩ : ∃ f, fuel = f + 1 := by
      cases fuel with
      | succ f => exact ⟨f, rfl⟩
      | zero =>
        exfalso
        have hu := hun i hi
        have hun' : false ∈ listed.toList := by
          rw [Array.getD_eq_getD_getElem?, Array.getElem?_eq_getElem (by omega)] at hu
          simp only [Option.getD_some] at hu
          rw [← hu]; exact Array.mem_toList_iff.2 (Array.getElem_mem (by omega))
        have := List.count_pos_iff.2 hun'
        omega
    refine ⟨fun hh => absurd (hh ▸ hmem) (by simp), fun r hr' => ?_⟩
    obtain ⟨hunr, o, hor, hpre⟩ := ready_spec hr'
    have hrlt : r < ops.size := (Array.getElem?_eq_some_iff.1 hor).1
    rw [getD_tf (by omega)] at hunr
    have hrT : r ∈ T := by
      refine Classical.byContradiction fun hn => ?_
      have := (hl r hrlt).2 hn
      rw [hunr] at this; cases this
    -- what stands ahead of it is done
    have hmask : ∀ j, ((masksFrom ops.toList []).getD r 0).testBit j = true → listed.getD j false = true := by
      intro j hb
      obtain ⟨e, hea, heb, hec⟩ := masks_edge (l := ops.toList) (by simpa using hor) hb
      have hle := hpre e hea heb
      rcases hec with hec | hec
      · rw [← hec]; exact hle
      · exact hcl e.on (by have := hwf r o hor e hea heb; omega) hle j hec
    have hrd : r ∈ rdyT ops T := by
      unfold rdyT
      rw [List.mem_filter, List.all_eq_true]
      refine ⟨hrT, fun j hj => ?_⟩
      rw [Bool.or_eq_true]
      by_cases hrj : r = j
      · exact .inl (by subst hrj; simp)
      · refine .inr ?_
        cases hq : ((masksFrom ops.toList []).getD r 0).testBit j with
        | false => rfl
        | true =>
          have := hmask j hq
          rw [hun j hj] at this; cases this
    have h' := h r hrd o hor
    have hnext : ∀ a' w', S w' → wpAnyT P ops S Q m (T.erase r) a' w' → S w' ∧ wpAnyH P .any ops (fun e a w => e = .normal ∧ Q a w) S fuel (listed.setIfInBounds r true) a' w' := fun a' w' hS h =>
      ⟨hS, ih (T.erase r) fuel _ a' w' (by rw [List.length_erase_of_mem hrT]; omega) (hnd.erase r) (fun j hj => hTk j (List.mem_of_mem_erase hj)) (by simp [hs]) (fun j hj => by
        rw [getD_set (by omega), hnd.mem_erase_iff]
        by_cases hjr : j = r
        · rw [if_pos hjr.symm]; simp [hjr]
        · rw [if_neg (fun e => hjr e.symm), hl j hj]; simp [hjr]) (fun q hq hlq j hb => by
        rw [getD_set (by omega)] at hlq ⊢
        split
        · rfl
        · split at hlq
          · rename_i e; subst e
            exact hmask j hb
          · exact hcl q hq hlq j hb) (count_less (by omega) hunr hc) h⟩
    unfold wpOp
    rw [hor]
    simp only []
    unfold wpList at h'
    split
    · rename_i hw
      rw [if_pos hw] at h'
      rcases h' with h' | ⟨_, a'', w'', he, _⟩
      · exact .inl (wp_both (fun a' w' hh => hnext a' w' hh.2.1 hh.2.2) (fun e a' w' hne hh => absurd hh.1 hne) h')
      · cases he
    · rename_i hw
      rw [if_neg hw] at h'
      exact hnext _ _ h'.2.1 h'.2.2
end
section
variable {P : Program} {Γ : List (Nat × Pr)} {n : Nat} {F0 : Nat → Bool} {js : List Item} {w0 w : World} {a : Act} {ops : Array Oper} {Q : Exit → Act → World → Prop}
theorem s_nextA {c : Mem} {os : List (Nat → Bool)} {K : Act → World → Prop} (hM : Mem.le c (vw (pf F0 os) w)) (h : K a w) : wpList P ops (fun e a' w' => e = .normal ∧ Mem.le c w'.cell? ∧ K a' w') [] a w := ⟨rfl, fun a v e => vw_cell (hM a v e), h⟩
def twos (ks : List Nat) (ops : Array Oper) : List Nat := (List.range ops.size).filter fun j => Nat.blt 1 (kd ks j)
theorem st_floatA (hm : P.follows .mixedOrders = true) (ks T : List Nat) (m : Nat) {id : Nat} (hok : regionOK n ops = true) (hfl : floatO ks ops = true) (hT : twos ks ops = T) (hTm : Nat.beq T.length m = true) (h : St n F0 js Γ w0 a w)
    (hs : SeqF P ops (ops.toList.zip ks) Γ fun Γ' => ∀ c a' w', St n F0 js Γ' w0 a' w' → Mem.le c (vw (pf F0 (Its js)) w') → wpAnyT P ops (fun w'' => Mem.le c w''.cell?) (Q .normal) m T a' w') : (Code.region id ops true).wp P Q a w := by
  have hf := floatO_spec hfl
  subst hT
  have hTm := Nat.eq_of_beq_eq_true hTm
  have hs' : SeqF P ops (ops.toList.zip ks) Γ fun Γ' => ∀ a' w', Below w.heap.size w w' → Below w0.heap.size w0 w' → At n (pf F0 (Its js)) Γ' a' w' → wpAnyT P ops (fun w'' => Mem.le (vw (pf F0 (Its js)) w') w''.cell?) (Q .normal) m (twos ks ops) a' w' := by
    have mono : ∀ (l : List (Oper × Nat)) (Γ : List (Nat × Pr)) (K K' : List (Nat × Pr) → Prop), (∀ Γ, K Γ → K' Γ) → SeqF P ops l Γ K → SeqF P ops l Γ K' := by
      intro l
      induction l with
      | nil => intro Γ K K' hk h; exact hk _ h
      | cons x r ih =>
        obtain ⟨o, q⟩ := x
        intro Γ K K' hk h
        match q, h with
        | 0, h => obtain ⟨φ, h1, h2⟩ := h; exact ⟨φ, h1, ih _ _ _ hk h2⟩
        | 1, h => obtain ⟨φ, h1, h2⟩ := h; exact ⟨φ, h1, ih _ _ _ hk h2⟩
        | q + 2, h => exact ih Γ K K' hk h
    exact mono _ _ _ _ (fun Γ' hk a' w' hb _ hA => hk _ a' w' (h.grow hb hA) (Mem.le_refl _)) hs
  have hmem : ∀ j, j ∈ twos ks ops ↔ j < ops.size ∧ 1 < kd ks j := fun j => by
    unfold twos
    rw [List.mem_filter, List.mem_range, Nat.blt_eq]
  refine wp_floatR hm ks hok hf h.at_ h.below (R := fun w a w' => wpAnyT P ops (fun w'' => Mem.le (vw (pf F0 (Its js)) w) w''.cell?) (Q .normal) m (twos ks ops) a w') (fun hwf w fuel listed a hs hr hc h => ?_) hs'
  have hl : ∀ j, j < ops.size → (listed.getD j false = true ↔ j ∉ twos ks ops) := fun j hj => by
    rw [hr j hj, Nat.blt_eq, hmem]
    constructor
    · intro q; omega
    · intro q
      rcases Nat.lt_or_ge (kd ks j) 2 with q1 | q1
      · exact q1
      · exact absurd ⟨hj, by omega⟩ q
  refine wpAnyH_any hf hwf m (twos ks ops) fuel listed a w hTm (List.Pairwise.filter _ List.nodup_range) (fun j hj => (hmem j).1 hj) hs hl (fun q hq hlq j hb => ?_) hc h
  have hwf' : ∀ (i : Nat) (o : Oper), ops.toList[i]? = some o → ∀ e ∈ o.after.toList, Region.binds .any e = true → e.on < i := fun i o h => hwf i o (by simpa using h)
  have hjq := masks_lt hwf' q j (by simpa using hq) hb
  have hkq : kd ks q < 2 := by
    have := hr q hq
    rw [hlq] at this
    exact blt_i this.symm
  rw [hr j (by omega)]
  refine blt_t (Nat.lt_of_not_le fun hj2 => ?_)
  have := hf.clear q hq hkq j (by omega) (by omega)
  rw [hb] at this; cases this
end
end Go.Proofs.YtnnhmgcigoiceaaGreatDoor.Wh
