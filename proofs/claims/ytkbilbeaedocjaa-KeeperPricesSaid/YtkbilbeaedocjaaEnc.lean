/-
  What is proved: how data lie in memory as seen (class Enc), for integers, booleans, texts, slices, pairs and what is made of them.
-/
import Derived.Test.YtkbilbeaedocjaaRegion
namespace Go.Proofs.Ytkbilbeaedocjaa.Wh
open Go Go.RowKit

class Enc (α : Type) where
  size : Nat
  agg : Bool
  rep : Mem → List Value → α → Prop
  len : ∀ {c : Mem} {vs : List Value} {x : α}, rep c vs x → vs.length = size
  mono : ∀ {c c' : Mem} {vs : List Value} {x : α}, Mem.le c c' → rep c vs x → rep c' vs x
  cell : ∀ {c : Mem} {vs : List Value} {x : α}, rep c vs x → ∀ u ∈ vs, u.oneCell' = true
  one : agg = false → size = 1
def rep1 {α : Type} (val : Mem → Value → α → Prop) (c : Mem) (vs : List Value) (x : α) : Prop := match vs with | [v] => val c v x | _ => False
theorem rep1_out {α : Type} {val : Mem → Value → α → Prop} {c : Mem} {vs : List Value} {x : α} (h : rep1 val c vs x) : ∃ v, vs = [v] ∧ val c v x := by
  match vs, h with
  | [v], h => exact ⟨v, rfl, h⟩
@[reducible] def Enc.single {α : Type} (val : Mem → Value → α → Prop) (mono : ∀ {c c' : Mem} {v : Value} {x : α}, Mem.le c c' → val c v x → val c' v x) (cell : ∀ {c : Mem} {v : Value} {x : α}, val c v x → v.oneCell' = true) : Enc α where
  size := 1
  agg := false
  rep := rep1 val
  len h := by obtain ⟨v, rfl, _⟩ := rep1_out h; rfl
  mono hc h := by obtain ⟨v, rfl, hv⟩ := rep1_out h; exact mono hc hv
  cell h := by obtain ⟨v, rfl, hv⟩ := rep1_out h; intro u hu; simp at hu; subst hu; exact cell hv
  one _ := rfl
instance : Enc Int := Enc.single (fun _ v n => v = .int .i64 n) (fun _ h => h) (fun h => by subst h; rfl)
instance : Enc Bool := Enc.single (fun _ v b => v = .bool b) (fun _ h => h) (fun h => by subst h; rfl)
instance : Enc ByteArray := Enc.single (fun _ v s => v = .string s) (fun _ h => h) (fun h => by subst h; rfl)
/-- The value of a variable of the type. -/
def val {α : Type} [Enc α] (c : Mem) (v : Value) (x : α) : Prop := match Enc.agg α with | false => Enc.rep c [v] x | true => ∃ vs, v = .agg vs.toArray ∧ Enc.rep c vs x
theorem val_mono {α : Type} [Enc α] {c c' : Mem} {v : Value} {x : α} (hc : Mem.le c c') (h : val c v x) : val c' v x := by
  unfold val at *
  split at h
  · exact Enc.mono hc h
  · obtain ⟨vs, hv, hr⟩ := h; exact ⟨vs, hv, Enc.mono hc hr⟩
theorem val_cells {α : Type} [Enc α] {c : Mem} {v : Value} {x : α} (h : val c v x) : Enc.rep c v.cells.toList x := by
  unfold val at h
  split at h
  · have hc := Enc.cell h v (by simp)
    cases v <;> first | exact h | cases hc
  · obtain ⟨vs, rfl, hr⟩ := h; simpa [Value.cells] using hr
def isV {α : Type} [Enc α] (x : α) : Pr := ⟨fun c v => val c.c v x, fun hc h => val_mono hc.1 h⟩
/-- Cells that hold a datum. -/
def Holds {α : Type} [Enc α] (c : Mem) (b off : Nat) (x : α) : Prop := ∃ vs, Enc.rep c vs x ∧ ∀ j v, vs[j]? = some v → c ⟨b, off + j, none⟩ = some v
theorem Holds.mono {α : Type} [Enc α] {c c' : Mem} {b off : Nat} {x : α} (hc : Mem.le c c') (h : Holds c b off x) : Holds c' b off x := by
  obtain ⟨vs, hr, hv⟩ := h
  exact ⟨vs, Enc.mono hc hr, fun j v e => hc _ _ (hv j v e)⟩
/-- A pointer to cells that hold a datum (and are written no more). -/
def isA {α : Type} [Enc α] (x : α) : Pr := ⟨fun c v => ∃ b off, v = .pointer (some ⟨b, off, none⟩) ∧ Holds c.c b off x, fun hc ⟨b, off, hv, hh⟩ => ⟨b, off, hv, hh.mono hc.1⟩⟩
def slice {α : Type} [Enc α] (c : Mem) (v : Value) (xs : List α) : Prop :=
  (∃ a cap, v = .slice a 0 cap ∧ cap ≤ maxLen ∧ xs = []) ∨
  ∃ b off cap, v = .slice (some ⟨b, off, none⟩) xs.length cap ∧ xs.length ≤ cap ∧ cap ≤ maxLen ∧ ∀ i (h : i < xs.length), Holds c b (off + i * Enc.size α) xs[i]
theorem slice_len {α : Type} [Enc α] {c : Mem} {v : Value} {xs : List α} (h : slice c v xs) : ∃ a cap, v = .slice a xs.length cap ∧ xs.length ≤ cap ∧ cap ≤ maxLen := by
  rcases h with ⟨a, cap, hv, hc, rfl⟩ | ⟨b, off, cap, hv, h1, h2, _⟩
  · exact ⟨a, cap, hv, Nat.zero_le _, hc⟩
  · exact ⟨_, cap, hv, h1, h2⟩
theorem slice_mono {α : Type} [Enc α] {c c' : Mem} {v : Value} {xs : List α} (hc : Mem.le c c') (h : slice c v xs) : slice c' v xs := by
  rcases h with h | ⟨b, off, cap, hv, h1, h2, h3⟩
  · exact .inl h
  · exact .inr ⟨b, off, cap, hv, h1, h2, fun i hi => (h3 i hi).mono hc⟩
instance {α : Type} [Enc α] : Enc (List α) := Enc.single slice (fun hc h => slice_mono hc h) (fun h => by obtain ⟨a, cap, rfl, _⟩ := slice_len h; rfl)
instance {α β : Type} [Enc α] [Enc β] : Enc (α × β) where
  size := Enc.size α + Enc.size β
  agg := true
  rep c vs p := ∃ v1 v2, vs = v1 ++ v2 ∧ Enc.rep c v1 p.1 ∧ Enc.rep c v2 p.2
  len h := by obtain ⟨v1, v2, rfl, h1, h2⟩ := h; rw [List.length_append, Enc.len h1, Enc.len h2]
  mono hc h := by obtain ⟨v1, v2, rfl, h1, h2⟩ := h; exact ⟨v1, v2, rfl, Enc.mono hc h1, Enc.mono hc h2⟩
  cell h := by
    obtain ⟨v1, v2, rfl, h1, h2⟩ := h
    intro u hu
    rcases List.mem_append.1 hu with hu | hu
    · exact Enc.cell h1 u hu
    · exact Enc.cell h2 u hu
  one h := by cases h
instance : Enc Unit where
  size := 0
  agg := true
  rep _ vs _ := vs = []
  len h := by subst h; rfl
  mono _ h := h
  cell h := by subst h; intro u hu; simp at hu
  one h := by cases h
theorem rep_fst {α β : Type} [Enc α] [Enc β] {c : Mem} {vs : List Value} {p : α × β} (h : Enc.rep c vs p) : Enc.rep c (vs.take (Enc.size α)) p.1 := by
  obtain ⟨v1, v2, rfl, h1, _⟩ := h
  rw [← Enc.len h1, List.take_left]; exact h1
theorem rep_snd {α β : Type} [Enc α] [Enc β] {c : Mem} {vs : List Value} {p : α × β} (h : Enc.rep c vs p) : Enc.rep c (vs.drop (Enc.size α)) p.2 := by
  obtain ⟨v1, v2, rfl, h1, h2⟩ := h
  rw [← Enc.len h1, List.drop_left]; exact h2
theorem rep_all {α : Type} [Enc α] {c : Mem} {vs : List Value} {x : α} (h : Enc.rep c vs x) : Enc.rep c (vs.take (Enc.size α)) x := by
  rw [List.take_of_length_le (by rw [Enc.len h]; exact Nat.le_refl _)]; exact h
/-- A struct, by its fields as a pair of pairs. -/
@[reducible] def Enc.via {α β : Type} [Enc α] (f : β → α) : Enc β where
  size := Enc.size α
  agg := true
  rep c vs x := Enc.rep c vs (f x)
  len h := Enc.len h
  mono hc h := Enc.mono hc h
  cell h := Enc.cell h
  one h := by cases h

/-! ### types of the program -/
def aggD : TypeDesc → Bool | .struct _ | .array _ _ => true | _ => false
structure TyP (P : Program) (T : TypeId) (α : Type) [Enc α] : Prop where
  desc : ∃ d, P.underlying T = some d ∧ aggD d = Enc.agg α
  info : ∃ i, P.info? T = some i ∧ i.size = Enc.size α
theorem TyP.mk' {P : Program} {T : TypeId} {α : Type} [Enc α] {d : TypeDesc} (h : P.underlying T = some d) (hd : aggD d = Enc.agg α) (hi : (P.info? T).map (·.size) = some (Enc.size α)) : TyP P T α := by
  cases h' : P.info? T with
  | none => rw [h'] at hi; cases hi
  | some i => rw [h'] at hi; exact ⟨⟨d, h, hd⟩, ⟨i, h', by simpa using hi⟩⟩
theorem TyP.isAgg {P : Program} {T : TypeId} {α : Type} [Enc α] (h : TyP P T α) (w : World) : (isAgg T).run P w = .ok (Enc.agg α) w := by
  obtain ⟨d, hd, ha⟩ := h.desc
  rw [← ha]
  cases d <;> simp [Go.isAgg, run_underlying hd, aggD]
theorem TyP.sizeOf {P : Program} {T : TypeId} {α : Type} [Enc α] (h : TyP P T α) (w : World) : (sizeOf T).run P w = .ok (Enc.size α) w := by
  obtain ⟨i, hi, hs⟩ := h.info
  simp [Go.sizeOf, typeInfo, hi, hs]
/-- A slice type, its elements. -/
structure SlP (P : Program) (T E : TypeId) (α : Type) [Enc α] : Prop where
  desc : P.underlying T = some (.slice E)
  elem : TyP P E α
theorem run_load_holds {P : Program} {T : TypeId} {α : Type} [Enc α] (hT : TyP P T α) {c : Mem} {w : World} (hc : Mem.le c w.cell?) {b off : Nat} {x : α} (h : Holds c b off x) :
    ∃ v, (loadVar T ⟨b, off, none⟩).run P w = .ok v w ∧ val c v x := by
  obtain ⟨vs, hr, hv⟩ := h
  have hl := Enc.len hr
  unfold loadVar
  simp only [Sem.run_bind, hT.isAgg w, Result.andThen]
  cases ha : Enc.agg α with
  | false =>
    have h1 := Enc.one (α := α) ha
    rw [h1] at hl
    obtain ⟨v, rfl⟩ : ∃ v, vs = [v] := by
      match vs, hl with
      | [v], _ => exact ⟨v, rfl⟩
    refine ⟨v, ?_, ?_⟩
    · have := hc _ _ (hv 0 v rfl)
      simp at this
      simp [this]
    · unfold val; rw [ha]; exact hr
  | true =>
    refine ⟨.agg vs.toArray, ?_, ?_⟩
    · have := run_loadCells_list (P := P) w ⟨b, off, none⟩ vs (fun j v e => by rw [Addr.add_lit]; exact hc _ _ (hv j v e))
      rw [hl] at this
      simp [hT.sizeOf w, this]
    · unfold val; rw [ha]; exact ⟨vs, rfl, hr⟩
end Go.Proofs.Ytkbilbeaedocjaa.Wh
