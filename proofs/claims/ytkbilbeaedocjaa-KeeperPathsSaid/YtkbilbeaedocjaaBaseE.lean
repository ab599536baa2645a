/-
  What is proved: arrays as values: built out of their elements, empty, and read.
-/
import Derived.Test.YtkbilbeaedocjaaBaseD
namespace Go.Proofs.Ytkbilbeaedocjaa.Wh
open Go Go.RowKit
section
variable {P : Program} {Γ : List (Nat × Pr)} {ty : TypeId}
theorem sp_indexA {α : Type} [Enc α] {x k : Operand} {T E : TypeId} {n : Nat} {v : Vector α n} {i : Int} {y : α} (hT : ArP P T E n α) (hx : Od Γ x (isV v)) (hk : Od Γ k (isV i)) (h : idxA v i = some y) : StepP P (.index T x k) ty Γ (isV y) :=
  step_pure fun c w a hc hm => by
    have hkv := get_int hk hm (by simp [Op.operands])
    have h3 : val c.c (a.eval x) v := hx.get hm (by simp [Op.operands])
    obtain ⟨vs, hv, hr⟩ : ∃ vs : List Value, a.eval x = .agg vs.toArray ∧ Enc.rep c.c vs v := h3
    obtain ⟨hlt, h0, us, h2, h4⟩ := rep_vec hr h
    have hus : (vs.drop (i.toNat * Enc.size α)).take (Enc.size α) = us := by
      have hl := Enc.len h2
      apply List.ext_getElem?
      intro j
      rw [List.getElem?_take]
      split
      · rename_i hj
        have hj' : j < us.length := by omega
        rw [List.getElem?_drop, h4 j _ (List.getElem?_eq_getElem hj'), List.getElem?_eq_getElem hj']
      · rw [List.getElem?_eq_none (by omega)]
    obtain ⟨u, h5, h6⟩ := run_part (P := P) hT.elem (by rw [hus]; exact h2) w
    refine ⟨u, ?_, h6⟩
    have hi : 0 ≤ i ∧ i < (n : Int) := ⟨h0, by omega⟩
    simp [execOp, plain, hkv, hv, Instr.index, asIntOf, run_underlying hT.desc, hi, hT.elem.sizeOf w, h5]
/-- An array of all its elements. -/
theorem sp_buildArr {α : Type} [Enc α] {T E : TypeId} {n : Nat} {z : Value} {parts : Array (Nat × Operand)} (os : List Operand) (ds : List α) {v : Vector α n} (hT : ArP P T E n α) (hz : ∀ w : World, (zeroValue T).run P w = .ok z w) (hzs : z.cells.size = n * Enc.size α)
    (hp : parts.toList = (os.zipIdx 0).map fun x => (x.2, x.1)) (hn : os.length = n) (hpos : Nat.blt 0 (Enc.size α) = true) (hv : v.toList = ds) (hx : OdL Γ os (ds.map isV)) : StepP P (.build T parts) ty Γ (isV v) :=
  step_pure fun c w a hc hm => by
    have hfit := OdL.fit hm hx (fun y hy => by
      simp only [Op.operands, List.toList_toArray, hp, List.map_map, List.mem_map]
      obtain ⟨k, hk, he⟩ := List.getElem_of_mem hy
      refine ⟨(y, k), ?_, rfl⟩
      rw [List.mem_zipIdx_iff_getElem?]
      simp [← he])
    obtain ⟨hrl, hcs⟩ := fit_repL hfit
    have hprt : (parts.map fun (i, x) => (i, a.eval x)).toList = ((os.map a.eval).zipIdx 0).map fun x => (x.2, x.1) := by
      rw [Array.toList_map, hp]
      apply List.ext_getElem?
      intro k
      simp [List.getElem?_zipIdx]
      cases os[k]? <;> simp
    have hps : 0 < Enc.size α := by simpa [Nat.blt_eq] using hpos
    have hfill := Go.Great.fill_whole (s := Enc.size α) hps (os.map a.eval) z.cells (fun v hv => hcs v hv) (by simp [hn, hzs])
    refine ⟨.agg ((os.map a.eval).flatMap fun v => v.cells.toList).toArray, ?_, _, rfl, ?_⟩
    · simp only [execOp, plain, Instr.build, Sem.run_bind, hz w, Result.andThen_ok, run_underlying hT.desc, hT.elem.sizeOf w, hprt, hfill, Sem.run_pure]
    · show RepL c.c _ v.toList
      rw [hv]; exact hrl
/-- An array or a struct without parts. -/
theorem sp_buildZ {α : Type} [Enc α] {T E : TypeId} {n : Nat} {z : Value} {x : α} (hT : P.underlying T = some (.array n E)) (hE : ∃ i, P.info? E = some i) (hz : ∀ w : World, (zeroValue T).run P w = .ok z w) (ha : Enc.agg α = true) (hr : ∀ c : Mem, Enc.rep c z.cells.toList x) : StepP P (.build T #[]) ty Γ (isV x) :=
  step_pure fun c w a hc hm => by
    obtain ⟨i, hi⟩ := hE
    refine ⟨.agg z.cells, ?_, ?_⟩
    · simp [execOp, plain, Instr.build, hz w, run_underlying hT, Go.sizeOf, typeInfo, hi, Instr.fill]
    · show val c.c (.agg z.cells) x
      unfold val
      rw [ha]
      exact ⟨z.cells.toList, by simp, hr c.c⟩
end
end Go.Proofs.Ytkbilbeaedocjaa.Wh
