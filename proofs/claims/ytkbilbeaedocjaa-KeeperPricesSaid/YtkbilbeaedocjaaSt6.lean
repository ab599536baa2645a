/-
  What is proved: tests against nil; empty slices of the call's own.
-/
import Derived.Test.YtkbilbeaedocjaaSt5
import Derived.Laws.Cover3
namespace Go.Proofs.Ytkbilbeaedocjaa.Wh
open Go Go.RowKit

/-- A test whether a slice is nil: of one that is not empty it comes out false. -/
def isNilB {α : Type} (xs : List α) : Pr := ⟨fun _ v => ∃ b, v = .bool b ∧ (b = true → xs = []), fun _ h => h⟩
section
variable {P : Program} {Γ Δ : List (Nat × Pr)} {n : Nat} {F0 : Nat → Bool} {js : List Item} {w0 w : World} {a : Act} {ops : Array Oper} {Q : Exit → Act → World → Prop} {ty : TypeId}
theorem sp_eqlNil {α : Type} [Enc α] {x : Operand} {T T' E : TypeId} {xs : List α} (hT : P.underlying T = some (.slice E)) (hx : Od Γ x (isV xs)) : StepP P (.binOp .eql T x (.const (.slice none 0 0)) T') ty Γ (isNilB xs) :=
  step_pure fun c w a hc hm => by
    have h1 : slice c.c (a.eval x) xs := hx.get hm (by simp [Op.operands])
    have hn : a.eval (.const (.slice none 0 0)) = .slice none 0 0 := rfl
    rcases h1 with ⟨a', cap, hv, _, rfl⟩ | ⟨b, off, cap, hv, _, _, _⟩
    · refine ⟨.bool a'.isNone, ?_, a'.isNone, rfl, fun _ => rfl⟩
      simp [execOp, plain, hv, hn, eqGuard, binOp, run_equal_slice_nil w T E a' 0 cap hT]
    · refine ⟨.bool false, ?_, false, rfl, fun h => by cases h⟩
      simp [execOp, plain, hv, hn, eqGuard, binOp, run_equal_slice_nil w T E (some ⟨b, off, none⟩) xs.length cap hT]
theorem st_condN {α : Type} {t : Nat} {xs : List α} {x y : Code} (h : St n F0 js Γ w0 a w) (e : lk Γ t = some (isNilB xs)) (ht : xs = [] → x.wp P Q a w) (hf : y.wp P Q a w) : (Code.cond (.tmp t) x y).wp P Q a w := by
  obtain ⟨b, hb, hx⟩ : ∃ b, tmp a t = .bool b ∧ (b = true → xs = []) := h.at_.sat t _ e
  have h' : St n F0 js ((t, isV b) :: Γ) w0 a w := h.put_fact hb
  exact st_cond (b := b) h' (by simp [lk]) (fun e => ht (hx e)) (fun _ => hf)
variable {d : Nat} {t : TypeId} {ps : String} {af : Array Edge} {r : List Oper}
/-- 'd = []T{}', to be appended to. -/
theorem s_new0 {T E : TypeId} {α : Type} [Enc α] (hT : SlP P T E α) (h : St n F0 js Γ w0 a w) (hd : Nat.blt d n = true)
    (K : ∀ a' w' v, St n F0 (js ++ [Item.sl E v ([] : List α)]) ((d, Pr.is v) :: Γ) w0 a' w' → Mem.le (vw (pf F0 (Its js)) w) (vw (pf F0 (Its (js ++ [Item.sl E v ([] : List α)]))) w') → wpList P ops Q r a' w') :
    wpList P ops Q (⟨some d, .buildSlice T 0 #[], t, ps, af, none⟩ :: r) a w := by
  have hrun : (execOp a.eval ⟨some d, .buildSlice T 0 #[], t, ps, af, none⟩).run P w = .ok (.value (.slice (some ⟨w.heap.size, 0, none⟩) 0 0)) (w.alloc (.cells #[] E)) := by
    obtain ⟨i, hi, hs⟩ := hT.elem.info
    have hz0 : Array.map (fun _ : Nat => (default : Value)) (Array.range 0) = #[] := Array.eq_empty_of_size_eq_zero (by simp)
    simp [execOp, Instr.buildSlice, run_underlying hT.desc, Go.sizeOf, typeInfo, hi, Instr.fill, newRow, hz0]
  unfold wpList
  simp only [Region.wanted, if_true]
  refine .inl (wp_of_ex ?_)
  unfold Ex
  rw [hrun]
  have hb : Below w.heap.size w (w.alloc (.cells #[] E)) := (Below.refl _ _).alloc (Nat.le_refl _) _
  have ho : ∀ b, ob (.slice (some ⟨w.heap.size, 0, none⟩) 0 0) b = true → w.heap.size ≤ b ∧ b < (w.alloc (.cells #[] E)).heap.size := fun b hb => by
    have := ob_iff.1 hb; cases this; exact ⟨Nat.le_refl _, by simp⟩
  have hpf : pf F0 (Its js ++ [(Item.sl E (.slice (some ⟨w.heap.size, 0, none⟩) 0 0) ([] : List α)).o]) = fun b => pf F0 (Its js) b || ob (.slice (some ⟨w.heap.size, 0, none⟩) 0 0) b := pf_push
  refine K _ _ (.slice (some ⟨w.heap.size, 0, none⟩) 0 0) (h.push (it := Item.sl E _ ([] : List α)) hb ((at_push h.at_ hb ho).put (by simpa [Nat.blt_eq] using hd) rfl) (fun b hb => (ho b hb).1) ?_ (vw_push hb fun b hb => (ho b hb).1)) (by rw [its_push]; exact vw_push hb fun b hb => (ho b hb).1)
  refine ⟨⟨[], ⟨by simp, .inr ⟨w.heap.size, 0, #[], rfl, Nat.zero_le _, heap_alloc_new w _, Nat.le_refl _, Nat.zero_le _, by simp, by simp⟩⟩, rfl⟩⟩
end
end Go.Proofs.Ytkbilbeaedocjaa.Wh
