/-
  What is proved: facts on the types of the program that the walks use.
-/
import Derived.Test.YtjlagmcdoobimaaGreatDoorChecked
import Derived.Test.YtjlagmcdoobimaaGreatDoorBaseS
import Derived.Test.YtjlagmcdoobimaaGreatDoorData
set_option maxRecDepth 100000
namespace Go.Proofs.YtjlagmcdoobimaaGreatDoor
open Go Go.Proofs.YtjlagmcdoobimaaGreatDoor.Wh

theorem mixed : Tryz.prog.follows .mixedOrders = true := Tryz.checked.mixed
instance enc80 : Enc (Int → Option Bool) := Enc.single (fun c v f => (isFn Tryz.prog (X := Int) (Y := Bool) (fun x => [isV x]) (fun y => isV y) (f)).p ⟨c, c⟩ v) (fun hc h => (isFn Tryz.prog (X := Int) (Y := Bool) (fun x => [isV x]) (fun y => isV y) _).mono ⟨hc, hc⟩ h) (fun h => isFn_one h)
theorem od_fn80 {Γ : List (Nat × Pr)} {x : Operand} {f : (Int → Option Bool)} (h : Od Γ x (isV f)) : Od Γ x (isFn Tryz.prog (X := Int) (Y := Bool) (fun x => [isV x]) (fun y => isV y) (f)) := h
theorem mk_fn80 {Γ : List (Nat × Pr)} {ty : TypeId} {f : (Int → Option Bool)} {g : FuncId} {xs : Array Operand} {κs : List Pr} (hC : OnlyC κs) (he : Enters Tryz.prog g) (hx : OdL Γ xs.toList κs) (h : ∀ (x : Int) (y : Bool), (f : Int → Option Bool) x = some y → CallOK Tryz.prog g ((fun x => [isV x] : Int → List Pr) x ++ κs) ((fun y => isV y : Bool → Pr) y)) : StepP Tryz.prog (.makeFunc (.func g) #[] xs) ty Γ (isV f) :=
  sp_makeFunc (X := Int) (Y := Bool) (A := fun x => [isV x]) (R := fun y => isV y) (f := f) hC he hx h
instance enc109 : Enc ((Vector Int 2) → (Vector Int 2) → Option Int) := Enc.single (fun c v f => (isFn Tryz.prog (X := (Vector Int 2) × (Vector Int 2)) (Y := Int) (fun x => [isV x.1, isV x.2]) (fun y => isV y) (fun x => f x.1 x.2)).p ⟨c, c⟩ v) (fun hc h => (isFn Tryz.prog (X := (Vector Int 2) × (Vector Int 2)) (Y := Int) (fun x => [isV x.1, isV x.2]) (fun y => isV y) _).mono ⟨hc, hc⟩ h) (fun h => isFn_one h)
theorem ty3 : TyP Tryz.prog 3 Int := TyP.mk' Tryz.underlying3 rfl (by kernel_rfl)
theorem ty4 : TyP Tryz.prog 4 Bool := TyP.mk' Tryz.underlying4 rfl (by kernel_rfl)
theorem ty9 : TyP Tryz.prog 9 ByteArray := TyP.mk' Tryz.underlying9 rfl (by kernel_rfl)
theorem ty23 : TyP Tryz.prog 23 S_api_Offer := TyP.mk' Tryz.underlying23 rfl (by kernel_rfl)
theorem ty31 : TyP Tryz.prog 31 (List S_api_Offer) := TyP.mk' Tryz.underlying31 rfl (by kernel_rfl)
theorem ty33 : TyP Tryz.prog 33 S_api_Market := TyP.mk' Tryz.underlying33 rfl (by kernel_rfl)
theorem ty37 : TyP Tryz.prog 37 (List Int) := TyP.mk' Tryz.underlying37 rfl (by kernel_rfl)
theorem ty46 : TyP Tryz.prog 46 S_api_Span := TyP.mk' Tryz.underlying46 rfl (by kernel_rfl)
theorem ty49 : TyP Tryz.prog 49 (List S_api_Span) := TyP.mk' Tryz.underlying49 rfl (by kernel_rfl)
theorem ty52 : TyP Tryz.prog 52 (Vector Int 2) := TyP.mk' Tryz.underlying52 rfl (by kernel_rfl)
theorem ty53 : TyP Tryz.prog 53 (List (Vector Int 2)) := TyP.mk' Tryz.underlying53 rfl (by kernel_rfl)
theorem ty76 : TyP Tryz.prog 76 Int := TyP.mk' Tryz.underlying76 rfl (by kernel_rfl)
theorem ty79 : TyP Tryz.prog 79 S_keeper_choice := TyP.mk' Tryz.underlying79 rfl (by kernel_rfl)
theorem ty80 : TyP Tryz.prog 80 (Int → Option Bool) := TyP.mk' Tryz.underlying80 rfl (by kernel_rfl)
theorem ty82 : TyP Tryz.prog 82 S_keeper_want := TyP.mk' Tryz.underlying82 rfl (by kernel_rfl)
theorem sl31 : SlP Tryz.prog 31 23 S_api_Offer := ⟨Tryz.underlying31, ty23⟩
theorem sl37 : SlP Tryz.prog 37 3 Int := ⟨Tryz.underlying37, ty3⟩
theorem sl41 : SlP Tryz.prog 41 53 (List (Vector Int 2)) := ⟨Tryz.underlying41, ty53⟩
theorem sl49 : SlP Tryz.prog 49 46 S_api_Span := ⟨Tryz.underlying49, ty46⟩
theorem sl53 : SlP Tryz.prog 53 52 (Vector Int 2) := ⟨Tryz.underlying53, ty52⟩
theorem sl60 : SlP Tryz.prog 60 9 ByteArray := ⟨Tryz.underlying60, ty9⟩
theorem sl74 : SlP Tryz.prog 74 37 (List Int) := ⟨Tryz.underlying74, ty37⟩
theorem sl110 : SlP Tryz.prog 110 31 (List S_api_Offer) := ⟨Tryz.underlying110, ty31⟩
theorem sl112 : SlP Tryz.prog 112 49 (List S_api_Span) := ⟨Tryz.underlying112, ty49⟩
theorem fd23_0 : FieldP Tryz.prog 23 0 (fun x : S_api_Offer => x.1) := FieldP.mk' Tryz.underlying23 rfl (by kernel_rfl) rfl fun c vs x h => by have := rep_fst h; exact this
theorem fd23_1 : FieldP Tryz.prog 23 1 (fun x : S_api_Offer => x.2.1) := FieldP.mk' Tryz.underlying23 rfl (by kernel_rfl) rfl fun c vs x h => by have := rep_fst (rep_snd h); exact this
theorem fd23_2 : FieldP Tryz.prog 23 2 (fun x : S_api_Offer => x.2.2.1) := FieldP.mk' Tryz.underlying23 rfl (by kernel_rfl) rfl fun c vs x h => by have := rep_fst (rep_snd (rep_snd h)); simp only [List.drop_drop] at this; exact this
theorem fd23_3 : FieldP Tryz.prog 23 3 (fun x : S_api_Offer => x.2.2.2) := FieldP.mk' Tryz.underlying23 rfl (by kernel_rfl) rfl fun c vs x h => by have := rep_all (rep_snd (rep_snd (rep_snd h))); simp only [List.drop_drop] at this; exact this
theorem fd33_0 : FieldP Tryz.prog 33 0 (fun x : S_api_Market => x.1) := FieldP.mk' Tryz.underlying33 rfl (by kernel_rfl) rfl fun c vs x h => by have := rep_fst h; exact this
theorem fd33_1 : FieldP Tryz.prog 33 1 (fun x : S_api_Market => x.2.1) := FieldP.mk' Tryz.underlying33 rfl (by kernel_rfl) rfl fun c vs x h => by have := rep_fst (rep_snd h); exact this
theorem fd33_2 : FieldP Tryz.prog 33 2 (fun x : S_api_Market => x.2.2) := FieldP.mk' Tryz.underlying33 rfl (by kernel_rfl) rfl fun c vs x h => by have := rep_all (rep_snd (rep_snd h)); simp only [List.drop_drop] at this; exact this
theorem fd46_0 : FieldP Tryz.prog 46 0 (fun x : S_api_Span => x.1) := FieldP.mk' Tryz.underlying46 rfl (by kernel_rfl) rfl fun c vs x h => by have := rep_fst h; exact this
theorem fd46_1 : FieldP Tryz.prog 46 1 (fun x : S_api_Span => x.2) := FieldP.mk' Tryz.underlying46 rfl (by kernel_rfl) rfl fun c vs x h => by have := rep_all (rep_snd h); exact this
theorem fd72_0 : FieldP Tryz.prog 72 0 (fun x : S_keeper_numbers => x.1) := FieldP.mk' Tryz.underlying72 rfl (by kernel_rfl) rfl fun c vs x h => by have := rep_fst h; exact this
theorem fd72_1 : FieldP Tryz.prog 72 1 (fun x : S_keeper_numbers => x.2) := FieldP.mk' Tryz.underlying72 rfl (by kernel_rfl) rfl fun c vs x h => by have := rep_all (rep_snd h); exact this
theorem fd79_1 : FieldP Tryz.prog 79 1 (fun x : S_keeper_choice => x.2.1) := FieldP.mk' Tryz.underlying79 rfl (by kernel_rfl) rfl fun c vs x h => by have := rep_fst (rep_snd h); exact this
theorem fd79_2 : FieldP Tryz.prog 79 2 (fun x : S_keeper_choice => x.2.2) := FieldP.mk' Tryz.underlying79 rfl (by kernel_rfl) rfl fun c vs x h => by have := rep_all (rep_snd (rep_snd h)); simp only [List.drop_drop] at this; exact this
theorem fd82_0 : FieldP Tryz.prog 82 0 (fun x : S_keeper_want => x.1) := FieldP.mk' Tryz.underlying82 rfl (by kernel_rfl) rfl fun c vs x h => by have := rep_fst h; exact this
theorem ff82_0 {Γ : List (Nat × Pr)} {ty : TypeId} {x : Operand} {d : S_keeper_want} (hx : Od Γ x (isV d)) : StepP Tryz.prog (.field 82 x 0) ty Γ (isV d.1) := sp_field (f := fun x : S_keeper_want => x.1) Tryz.underlying82 rfl rfl ty80 (fun c vs x h => by have := rep_fst h; exact this) hx
theorem en4 : Enters Tryz.prog 4 := enters_of Tryz.func4 (by kernel_rfl) rfl
theorem en5 : Enters Tryz.prog 5 := enters_of Tryz.func5 (by kernel_rfl) rfl
theorem en6 : Enters Tryz.prog 6 := enters_of Tryz.func6 (by kernel_rfl) rfl
theorem en7 : Enters Tryz.prog 7 := enters_of Tryz.func7 (by kernel_rfl) rfl
theorem en8 : Enters Tryz.prog 8 := enters_of Tryz.func8 (by kernel_rfl) rfl
theorem en9 : Enters Tryz.prog 9 := enters_of Tryz.func9 (by kernel_rfl) rfl
theorem en10 : Enters Tryz.prog 10 := enters_of Tryz.func10 (by kernel_rfl) rfl
theorem en11 : Enters Tryz.prog 11 := enters_of Tryz.func11 (by kernel_rfl) rfl
theorem en12 : Enters Tryz.prog 12 := enters_of Tryz.func12 (by kernel_rfl) rfl
theorem en13 : Enters Tryz.prog 13 := enters_of Tryz.func13 (by kernel_rfl) rfl
theorem en14 : Enters Tryz.prog 14 := enters_of Tryz.func14 (by kernel_rfl) rfl
theorem en15 : Enters Tryz.prog 15 := enters_of Tryz.func15 (by kernel_rfl) rfl
theorem en16 : Enters Tryz.prog 16 := enters_of Tryz.func16 (by kernel_rfl) rfl
theorem en17 : Enters Tryz.prog 17 := enters_of Tryz.func17 (by kernel_rfl) rfl
theorem en18 : Enters Tryz.prog 18 := enters_of Tryz.func18 (by kernel_rfl) rfl
theorem en19 : Enters Tryz.prog 19 := enters_of Tryz.func19 (by kernel_rfl) rfl
theorem en20 : Enters Tryz.prog 20 := enters_of Tryz.func20 (by kernel_rfl) rfl
theorem en21 : Enters Tryz.prog 21 := enters_of Tryz.func21 (by kernel_rfl) rfl
theorem en22 : Enters Tryz.prog 22 := enters_of Tryz.func22 (by kernel_rfl) rfl
theorem en23 : Enters Tryz.prog 23 := enters_of Tryz.func23 (by kernel_rfl) rfl
theorem en24 : Enters Tryz.prog 24 := enters_of Tryz.func24 (by kernel_rfl) rfl
theorem en25 : Enters Tryz.prog 25 := enters_of Tryz.func25 (by kernel_rfl) rfl
theorem en26 : Enters Tryz.prog 26 := enters_of Tryz.func26 (by kernel_rfl) rfl
theorem en27 : Enters Tryz.prog 27 := enters_of Tryz.func27 (by kernel_rfl) rfl
theorem en28 : Enters Tryz.prog 28 := enters_of Tryz.func28 (by kernel_rfl) rfl
theorem en29 : Enters Tryz.prog 29 := enters_of Tryz.func29 (by kernel_rfl) rfl
theorem en30 : Enters Tryz.prog 30 := enters_of Tryz.func30 (by kernel_rfl) rfl
theorem en31 : Enters Tryz.prog 31 := enters_of Tryz.func31 (by kernel_rfl) rfl
theorem en32 : Enters Tryz.prog 32 := enters_of Tryz.func32 (by kernel_rfl) rfl
theorem en33 : Enters Tryz.prog 33 := enters_of Tryz.func33 (by kernel_rfl) rfl
theorem en34 : Enters Tryz.prog 34 := enters_of Tryz.func34 (by kernel_rfl) rfl
theorem en35 : Enters Tryz.prog 35 := enters_of Tryz.func35 (by kernel_rfl) rfl
theorem en36 : Enters Tryz.prog 36 := enters_of Tryz.func36 (by kernel_rfl) rfl
theorem en37 : Enters Tryz.prog 37 := enters_of Tryz.func37 (by kernel_rfl) rfl
theorem en38 : Enters Tryz.prog 38 := enters_of Tryz.func38 (by kernel_rfl) rfl
theorem en39 : Enters Tryz.prog 39 := enters_of Tryz.func39 (by kernel_rfl) rfl
theorem en40 : Enters Tryz.prog 40 := enters_of Tryz.func40 (by kernel_rfl) rfl
theorem en41 : Enters Tryz.prog 41 := enters_of Tryz.func41 (by kernel_rfl) rfl
theorem en42 : Enters Tryz.prog 42 := enters_of Tryz.func42 (by kernel_rfl) rfl
theorem en43 : Enters Tryz.prog 43 := enters_of Tryz.func43 (by kernel_rfl) rfl
theorem en44 : Enters Tryz.prog 44 := enters_of Tryz.func44 (by kernel_rfl) rfl
theorem en45 : Enters Tryz.prog 45 := enters_of Tryz.func45 (by kernel_rfl) rfl
theorem en46 : Enters Tryz.prog 46 := enters_of Tryz.func46 (by kernel_rfl) rfl
theorem en51 : Enters Tryz.prog 51 := enters_of Tryz.func51 (by kernel_rfl) rfl
theorem en55 : Enters Tryz.prog 55 := enters_of Tryz.func55 (by kernel_rfl) rfl
theorem en56 : Enters Tryz.prog 56 := enters_of Tryz.func56 (by kernel_rfl) rfl
theorem en57 : Enters Tryz.prog 57 := enters_of Tryz.func57 (by kernel_rfl) rfl
theorem en58 : Enters Tryz.prog 58 := enters_of Tryz.func58 (by kernel_rfl) rfl
theorem en59 : Enters Tryz.prog 59 := enters_of Tryz.func59 (by kernel_rfl) rfl
theorem en60 : Enters Tryz.prog 60 := enters_of Tryz.func60 (by kernel_rfl) rfl
theorem en61 : Enters Tryz.prog 61 := enters_of Tryz.func61 (by kernel_rfl) rfl
theorem en62 : Enters Tryz.prog 62 := enters_of Tryz.func62 (by kernel_rfl) rfl
theorem en63 : Enters Tryz.prog 63 := enters_of Tryz.func63 (by kernel_rfl) rfl
theorem en64 : Enters Tryz.prog 64 := enters_of Tryz.func64 (by kernel_rfl) rfl
theorem en65 : Enters Tryz.prog 65 := enters_of Tryz.func65 (by kernel_rfl) rfl
theorem en77 : Enters Tryz.prog 77 := enters_of Tryz.func77 (by kernel_rfl) rfl
theorem en80 : Enters Tryz.prog 80 := enters_of Tryz.func80 (by kernel_rfl) rfl
theorem ar52 : ArP Tryz.prog 52 3 2 Int := ⟨Tryz.underlying52, ty3, rfl⟩
theorem ar61 : ArP Tryz.prog 61 3 4 Int := ⟨Tryz.underlying61, ty3, rfl⟩
theorem bd23_ {Γ : List (Nat × Pr)} {ty : TypeId}   : StepP Tryz.prog (.build 23 #[]) ty Γ (isV ((0, 0, 0, 0) : S_api_Offer)) :=
  step_pure fun c w a hc hm => by
    refine ⟨.agg #[.int .i64 0, .int .i64 0, .int .i64 0, .int .i64 0], ?_, [.int .i64 0, .int .i64 0, .int .i64 0, .int .i64 0], rfl, ⟨[.int .i64 0], [.int .i64 0, .int .i64 0, .int .i64 0], rfl, rfl, ⟨[.int .i64 0], [.int .i64 0, .int .i64 0], rfl, rfl, ⟨[.int .i64 0], [.int .i64 0], rfl, rfl, rfl⟩⟩⟩⟩
    have zr : (zeroValue 23).run Tryz.prog w = .ok (.agg #[.int .i64 0, .int .i64 0, .int .i64 0, .int .i64 0]) w := by kernel_rfl
    have si3 : (sizeOf 3).run Tryz.prog w = .ok 1 w := by kernel_rfl
    have zq : (Value.agg #[.int .i64 0, .int .i64 0, .int .i64 0, .int .i64 0]).cells = #[.int .i64 0, .int .i64 0, .int .i64 0, .int .i64 0] := rfl
    simp [execOp, plain, Instr.build, zr, run_underlying Tryz.underlying23, zq, Instr.fill]
theorem bd23_0123 {Γ : List (Nat × Pr)} {ty : TypeId} {x0 : Int} {o0 : Operand} {x1 : Int} {o1 : Operand} {x2 : Int} {o2 : Operand} {x3 : Int} {o3 : Operand} (h0 : Od Γ o0 (isV x0)) (h1 : Od Γ o1 (isV x1)) (h2 : Od Γ o2 (isV x2)) (h3 : Od Γ o3 (isV x3)) : StepP Tryz.prog (.build 23 #[(0, o0), (1, o1), (2, o2), (3, o3)]) ty Γ (isV ((x0, x1, x2, x3) : S_api_Offer)) :=
  step_pure fun c w a hc hm => by
    have g0 := h0.get hm (by simp [Op.operands])
    have c0 := cells_one (α := Int) rfl g0
    have g1 := h1.get hm (by simp [Op.operands])
    have c1 := cells_one (α := Int) rfl g1
    have g2 := h2.get hm (by simp [Op.operands])
    have c2 := cells_one (α := Int) rfl g2
    have g3 := h3.get hm (by simp [Op.operands])
    have c3 := cells_one (α := Int) rfl g3
    refine ⟨.agg #[a.eval o0, a.eval o1, a.eval o2, a.eval o3], ?_, [a.eval o0, a.eval o1, a.eval o2, a.eval o3], rfl, ⟨[a.eval o0], [a.eval o1, a.eval o2, a.eval o3], rfl, g0, ⟨[a.eval o1], [a.eval o2, a.eval o3], rfl, g1, ⟨[a.eval o2], [a.eval o3], rfl, g2, g3⟩⟩⟩⟩
    have zr : (zeroValue 23).run Tryz.prog w = .ok (.agg #[.int .i64 0, .int .i64 0, .int .i64 0, .int .i64 0]) w := by kernel_rfl
    have si3 : (sizeOf 3).run Tryz.prog w = .ok 1 w := by kernel_rfl
    have zq : (Value.agg #[.int .i64 0, .int .i64 0, .int .i64 0, .int .i64 0]).cells = #[.int .i64 0, .int .i64 0, .int .i64 0, .int .i64 0] := rfl
    simp [execOp, plain, Instr.build, zr, run_underlying Tryz.underlying23, zq, Instr.fill, c0, c1, c2, c3]
theorem bd33_ {Γ : List (Nat × Pr)} {ty : TypeId}   : StepP Tryz.prog (.build 33 #[]) ty Γ (isV ((0, [], []) : S_api_Market)) :=
  step_pure fun c w a hc hm => by
    refine ⟨.agg #[.int .i64 0, .slice none 0 0, .slice none 0 0], ?_, [.int .i64 0, .slice none 0 0, .slice none 0 0], rfl, ⟨[.int .i64 0], [.slice none 0 0, .slice none 0 0], rfl, rfl, ⟨[.slice none 0 0], [.slice none 0 0], rfl, (.inl ⟨none, 0, rfl, Nat.zero_le _, rfl⟩), (.inl ⟨none, 0, rfl, Nat.zero_le _, rfl⟩)⟩⟩⟩
    have zr : (zeroValue 33).run Tryz.prog w = .ok (.agg #[.int .i64 0, .slice none 0 0, .slice none 0 0]) w := by kernel_rfl
    have si3 : (sizeOf 3).run Tryz.prog w = .ok 1 w := by kernel_rfl
    have si31 : (sizeOf 31).run Tryz.prog w = .ok 1 w := by kernel_rfl
    have zq : (Value.agg #[.int .i64 0, .slice none 0 0, .slice none 0 0]).cells = #[.int .i64 0, .slice none 0 0, .slice none 0 0] := rfl
    simp [execOp, plain, Instr.build, zr, run_underlying Tryz.underlying33, zq, Instr.fill]
theorem bd33_02 {Γ : List (Nat × Pr)} {ty : TypeId} {x0 : Int} {o0 : Operand} {x2 : List S_api_Offer} {o2 : Operand} (h0 : Od Γ o0 (isV x0)) (h2 : Od Γ o2 (isV x2)) : StepP Tryz.prog (.build 33 #[(0, o0), (2, o2)]) ty Γ (isV ((x0, [], x2) : S_api_Market)) :=
  step_pure fun c w a hc hm => by
    have g0 := h0.get hm (by simp [Op.operands])
    have c0 := cells_one (α := Int) rfl g0
    have g2 := h2.get hm (by simp [Op.operands])
    have c2 := cells_one (α := List S_api_Offer) rfl g2
    refine ⟨.agg #[a.eval o0, .slice none 0 0, a.eval o2], ?_, [a.eval o0, .slice none 0 0, a.eval o2], rfl, ⟨[a.eval o0], [.slice none 0 0, a.eval o2], rfl, g0, ⟨[.slice none 0 0], [a.eval o2], rfl, (.inl ⟨none, 0, rfl, Nat.zero_le _, rfl⟩), g2⟩⟩⟩
    have zr : (zeroValue 33).run Tryz.prog w = .ok (.agg #[.int .i64 0, .slice none 0 0, .slice none 0 0]) w := by kernel_rfl
    have si3 : (sizeOf 3).run Tryz.prog w = .ok 1 w := by kernel_rfl
    have si31 : (sizeOf 31).run Tryz.prog w = .ok 1 w := by kernel_rfl
    have zq : (Value.agg #[.int .i64 0, .slice none 0 0, .slice none 0 0]).cells = #[.int .i64 0, .slice none 0 0, .slice none 0 0] := rfl
    simp [execOp, plain, Instr.build, zr, run_underlying Tryz.underlying33, zq, Instr.fill, c0, c2]
theorem bd46_ {Γ : List (Nat × Pr)} {ty : TypeId}   : StepP Tryz.prog (.build 46 #[]) ty Γ (isV ((0, 0) : S_api_Span)) :=
  step_pure fun c w a hc hm => by
    refine ⟨.agg #[.int .i64 0, .int .i64 0], ?_, [.int .i64 0, .int .i64 0], rfl, ⟨[.int .i64 0], [.int .i64 0], rfl, rfl, rfl⟩⟩
    have zr : (zeroValue 46).run Tryz.prog w = .ok (.agg #[.int .i64 0, .int .i64 0]) w := by kernel_rfl
    have si3 : (sizeOf 3).run Tryz.prog w = .ok 1 w := by kernel_rfl
    have zq : (Value.agg #[.int .i64 0, .int .i64 0]).cells = #[.int .i64 0, .int .i64 0] := rfl
    simp [execOp, plain, Instr.build, zr, run_underlying Tryz.underlying46, zq, Instr.fill]
theorem bd46_01 {Γ : List (Nat × Pr)} {ty : TypeId} {x0 : Int} {o0 : Operand} {x1 : Int} {o1 : Operand} (h0 : Od Γ o0 (isV x0)) (h1 : Od Γ o1 (isV x1)) : StepP Tryz.prog (.build 46 #[(0, o0), (1, o1)]) ty Γ (isV ((x0, x1) : S_api_Span)) :=
  step_pure fun c w a hc hm => by
    have g0 := h0.get hm (by simp [Op.operands])
    have c0 := cells_one (α := Int) rfl g0
    have g1 := h1.get hm (by simp [Op.operands])
    have c1 := cells_one (α := Int) rfl g1
    refine ⟨.agg #[a.eval o0, a.eval o1], ?_, [a.eval o0, a.eval o1], rfl, ⟨[a.eval o0], [a.eval o1], rfl, g0, g1⟩⟩
    have zr : (zeroValue 46).run Tryz.prog w = .ok (.agg #[.int .i64 0, .int .i64 0]) w := by kernel_rfl
    have si3 : (sizeOf 3).run Tryz.prog w = .ok 1 w := by kernel_rfl
    have zq : (Value.agg #[.int .i64 0, .int .i64 0]).cells = #[.int .i64 0, .int .i64 0] := rfl
    simp [execOp, plain, Instr.build, zr, run_underlying Tryz.underlying46, zq, Instr.fill, c0, c1]
theorem bd72_01 {Γ : List (Nat × Pr)} {ty : TypeId} {x0 : List Int} {o0 : Operand} {x1 : List Int} {o1 : Operand} (h0 : Od Γ o0 (isV x0)) (h1 : Od Γ o1 (isV x1)) : StepP Tryz.prog (.build 72 #[(0, o0), (1, o1)]) ty Γ (isV ((x0, x1) : S_keeper_numbers)) :=
  step_pure fun c w a hc hm => by
    have g0 := h0.get hm (by simp [Op.operands])
    have c0 := cells_one (α := List Int) rfl g0
    have g1 := h1.get hm (by simp [Op.operands])
    have c1 := cells_one (α := List Int) rfl g1
    refine ⟨.agg #[a.eval o0, a.eval o1], ?_, [a.eval o0, a.eval o1], rfl, ⟨[a.eval o0], [a.eval o1], rfl, g0, g1⟩⟩
    have zr : (zeroValue 72).run Tryz.prog w = .ok (.agg #[.slice none 0 0, .slice none 0 0]) w := by kernel_rfl
    have si37 : (sizeOf 37).run Tryz.prog w = .ok 1 w := by kernel_rfl
    have zq : (Value.agg #[.slice none 0 0, .slice none 0 0]).cells = #[.slice none 0 0, .slice none 0 0] := rfl
    simp [execOp, plain, Instr.build, zr, run_underlying Tryz.underlying72, zq, Instr.fill, c0, c1]
theorem bd72_0 {Γ : List (Nat × Pr)} {ty : TypeId} {x0 : List Int} {o0 : Operand} (h0 : Od Γ o0 (isV x0)) : StepP Tryz.prog (.build 72 #[(0, o0)]) ty Γ (isV ((x0, []) : S_keeper_numbers)) :=
  step_pure fun c w a hc hm => by
    have g0 := h0.get hm (by simp [Op.operands])
    have c0 := cells_one (α := List Int) rfl g0
    refine ⟨.agg #[a.eval o0, .slice none 0 0], ?_, [a.eval o0, .slice none 0 0], rfl, ⟨[a.eval o0], [.slice none 0 0], rfl, g0, (.inl ⟨none, 0, rfl, Nat.zero_le _, rfl⟩)⟩⟩
    have zr : (zeroValue 72).run Tryz.prog w = .ok (.agg #[.slice none 0 0, .slice none 0 0]) w := by kernel_rfl
    have si37 : (sizeOf 37).run Tryz.prog w = .ok 1 w := by kernel_rfl
    have zq : (Value.agg #[.slice none 0 0, .slice none 0 0]).cells = #[.slice none 0 0, .slice none 0 0] := rfl
    simp [execOp, plain, Instr.build, zr, run_underlying Tryz.underlying72, zq, Instr.fill, c0]
theorem bd72_1 {Γ : List (Nat × Pr)} {ty : TypeId} {x1 : List Int} {o1 : Operand} (h1 : Od Γ o1 (isV x1)) : StepP Tryz.prog (.build 72 #[(1, o1)]) ty Γ (isV (([], x1) : S_keeper_numbers)) :=
  step_pure fun c w a hc hm => by
    have g1 := h1.get hm (by simp [Op.operands])
    have c1 := cells_one (α := List Int) rfl g1
    refine ⟨.agg #[.slice none 0 0, a.eval o1], ?_, [.slice none 0 0, a.eval o1], rfl, ⟨[.slice none 0 0], [a.eval o1], rfl, (.inl ⟨none, 0, rfl, Nat.zero_le _, rfl⟩), g1⟩⟩
    have zr : (zeroValue 72).run Tryz.prog w = .ok (.agg #[.slice none 0 0, .slice none 0 0]) w := by kernel_rfl
    have si37 : (sizeOf 37).run Tryz.prog w = .ok 1 w := by kernel_rfl
    have zq : (Value.agg #[.slice none 0 0, .slice none 0 0]).cells = #[.slice none 0 0, .slice none 0 0] := rfl
    simp [execOp, plain, Instr.build, zr, run_underlying Tryz.underlying72, zq, Instr.fill, c1]
theorem bd79_ {Γ : List (Nat × Pr)} {ty : TypeId}   : StepP Tryz.prog (.build 79 #[]) ty Γ (isV ((false, 0, 0) : S_keeper_choice)) :=
  step_pure fun c w a hc hm => by
    refine ⟨.agg #[.bool false, .int .i64 0, .int .i64 0], ?_, [.bool false, .int .i64 0, .int .i64 0], rfl, ⟨[.bool false], [.int .i64 0, .int .i64 0], rfl, rfl, ⟨[.int .i64 0], [.int .i64 0], rfl, rfl, rfl⟩⟩⟩
    have zr : (zeroValue 79).run Tryz.prog w = .ok (.agg #[.bool false, .int .i64 0, .int .i64 0]) w := by kernel_rfl
    have si3 : (sizeOf 3).run Tryz.prog w = .ok 1 w := by kernel_rfl
    have si4 : (sizeOf 4).run Tryz.prog w = .ok 1 w := by kernel_rfl
    have si76 : (sizeOf 76).run Tryz.prog w = .ok 1 w := by kernel_rfl
    have zq : (Value.agg #[.bool false, .int .i64 0, .int .i64 0]).cells = #[.bool false, .int .i64 0, .int .i64 0] := rfl
    simp [execOp, plain, Instr.build, zr, run_underlying Tryz.underlying79, zq, Instr.fill]
theorem bd79_012 {Γ : List (Nat × Pr)} {ty : TypeId} {x0 : Bool} {o0 : Operand} {x1 : Int} {o1 : Operand} {x2 : Int} {o2 : Operand} (h0 : Od Γ o0 (isV x0)) (h1 : Od Γ o1 (isV x1)) (h2 : Od Γ o2 (isV x2)) : StepP Tryz.prog (.build 79 #[(0, o0), (1, o1), (2, o2)]) ty Γ (isV ((x0, x1, x2) : S_keeper_choice)) :=
  step_pure fun c w a hc hm => by
    have g0 := h0.get hm (by simp [Op.operands])
    have c0 := cells_one (α := Bool) rfl g0
    have g1 := h1.get hm (by simp [Op.operands])
    have c1 := cells_one (α := Int) rfl g1
    have g2 := h2.get hm (by simp [Op.operands])
    have c2 := cells_one (α := Int) rfl g2
    refine ⟨.agg #[a.eval o0, a.eval o1, a.eval o2], ?_, [a.eval o0, a.eval o1, a.eval o2], rfl, ⟨[a.eval o0], [a.eval o1, a.eval o2], rfl, g0, ⟨[a.eval o1], [a.eval o2], rfl, g1, g2⟩⟩⟩
    have zr : (zeroValue 79).run Tryz.prog w = .ok (.agg #[.bool false, .int .i64 0, .int .i64 0]) w := by kernel_rfl
    have si3 : (sizeOf 3).run Tryz.prog w = .ok 1 w := by kernel_rfl
    have si4 : (sizeOf 4).run Tryz.prog w = .ok 1 w := by kernel_rfl
    have si76 : (sizeOf 76).run Tryz.prog w = .ok 1 w := by kernel_rfl
    have zq : (Value.agg #[.bool false, .int .i64 0, .int .i64 0]).cells = #[.bool false, .int .i64 0, .int .i64 0] := rfl
    simp [execOp, plain, Instr.build, zr, run_underlying Tryz.underlying79, zq, Instr.fill, c0, c1, c2]
theorem bd82_0 {Γ : List (Nat × Pr)} {ty : TypeId} {x0 : (Int → Option Bool)} {o0 : Operand} (h0 : Od Γ o0 (isV x0)) : StepP Tryz.prog (.build 82 #[(0, o0)]) ty Γ (isV ((x0, ()) : S_keeper_want)) :=
  step_pure fun c w a hc hm => by
    have g0 := h0.get hm (by simp [Op.operands])
    have c0 := cells_one (α := (Int → Option Bool)) rfl g0
    refine ⟨.agg #[a.eval o0], ?_, [a.eval o0], rfl, ⟨[a.eval o0], [], rfl, g0, rfl⟩⟩
    have zr : (zeroValue 82).run Tryz.prog w = .ok (.agg #[.nilFunc]) w := by kernel_rfl
    have si80 : (sizeOf 80).run Tryz.prog w = .ok 1 w := by kernel_rfl
    have zq : (Value.agg #[.nilFunc]).cells = #[.nilFunc] := rfl
    simp [execOp, plain, Instr.build, zr, run_underlying Tryz.underlying82, zq, Instr.fill, c0]
theorem bd52 {Γ : List (Nat × Pr)} {ty : TypeId} {x0 : Int} {o0 : Operand} {x1 : Int} {o1 : Operand} (h0 : Od Γ o0 (isV x0)) (h1 : Od Γ o1 (isV x1)) : StepP Tryz.prog (.build 52 #[(0, o0), (1, o1)]) ty Γ (isV (#v[x0, x1] : Vector Int 2)) :=
  step_pure fun c w a hc hm => by
    have g0 := h0.get hm (by simp [Op.operands])
    have c0 := cells_one (α := Int) rfl g0
    have g1 := h1.get hm (by simp [Op.operands])
    have c1 := cells_one (α := Int) rfl g1
    refine ⟨.agg #[a.eval o0, a.eval o1], ?_, [a.eval o0, a.eval o1], rfl, ⟨[a.eval o0], [a.eval o1], rfl, g0, ⟨[a.eval o1], [], rfl, g1, rfl⟩⟩⟩
    have zr : (zeroValue 52).run Tryz.prog w = .ok (.agg #[.int .i64 0, .int .i64 0]) w := by kernel_rfl
    have si3 : (sizeOf 3).run Tryz.prog w = .ok 1 w := by kernel_rfl
    have zq : (Value.agg #[.int .i64 0, .int .i64 0]).cells = #[.int .i64 0, .int .i64 0] := rfl
    simp [execOp, plain, Instr.build, zr, run_underlying Tryz.underlying52, zq, Instr.fill, c0, c1]
theorem bd61 {Γ : List (Nat × Pr)} {ty : TypeId} {x0 : Int} {o0 : Operand} {x1 : Int} {o1 : Operand} {x2 : Int} {o2 : Operand} {x3 : Int} {o3 : Operand} (h0 : Od Γ o0 (isV x0)) (h1 : Od Γ o1 (isV x1)) (h2 : Od Γ o2 (isV x2)) (h3 : Od Γ o3 (isV x3)) : StepP Tryz.prog (.build 61 #[(0, o0), (1, o1), (2, o2), (3, o3)]) ty Γ (isV (#v[x0, x1, x2, x3] : Vector Int 4)) :=
  step_pure fun c w a hc hm => by
    have g0 := h0.get hm (by simp [Op.operands])
    have c0 := cells_one (α := Int) rfl g0
    have g1 := h1.get hm (by simp [Op.operands])
    have c1 := cells_one (α := Int) rfl g1
    have g2 := h2.get hm (by simp [Op.operands])
    have c2 := cells_one (α := Int) rfl g2
    have g3 := h3.get hm (by simp [Op.operands])
    have c3 := cells_one (α := Int) rfl g3
    refine ⟨.agg #[a.eval o0, a.eval o1, a.eval o2, a.eval o3], ?_, [a.eval o0, a.eval o1, a.eval o2, a.eval o3], rfl, ⟨[a.eval o0], [a.eval o1, a.eval o2, a.eval o3], rfl, g0, ⟨[a.eval o1], [a.eval o2, a.eval o3], rfl, g1, ⟨[a.eval o2], [a.eval o3], rfl, g2, ⟨[a.eval o3], [], rfl, g3, rfl⟩⟩⟩⟩⟩
    have zr : (zeroValue 61).run Tryz.prog w = .ok (.agg #[.int .i64 0, .int .i64 0, .int .i64 0, .int .i64 0]) w := by kernel_rfl
    have si3 : (sizeOf 3).run Tryz.prog w = .ok 1 w := by kernel_rfl
    have zq : (Value.agg #[.int .i64 0, .int .i64 0, .int .i64 0, .int .i64 0]).cells = #[.int .i64 0, .int .i64 0, .int .i64 0, .int .i64 0] := rfl
    simp [execOp, plain, Instr.build, zr, run_underlying Tryz.underlying61, zq, Instr.fill, c0, c1, c2, c3]
theorem sz37 : (Tryz.prog.info? 37).map (·.size) = some 1 := by kernel_rfl
theorem sz53 : (Tryz.prog.info? 53).map (·.size) = some 1 := by kernel_rfl
theorem ze23 : ZeroP Tryz.prog 23 S_api_Offer := ZeroP.mk' (by kernel_rfl)
theorem ze3 : ZeroP Tryz.prog 3 Int := ZeroP.mk' (by kernel_rfl)
theorem ze31 : ZeroP Tryz.prog 31 (List S_api_Offer) := ZeroP.mk' (by kernel_rfl)
theorem ze33 : ZeroP Tryz.prog 33 S_api_Market := ZeroP.mk' (by kernel_rfl)
theorem ze37 : ZeroP Tryz.prog 37 (List Int) := ZeroP.mk' (by kernel_rfl)
theorem ze46 : ZeroP Tryz.prog 46 S_api_Span := ZeroP.mk' (by kernel_rfl)
theorem ze49 : ZeroP Tryz.prog 49 (List S_api_Span) := ZeroP.mk' (by kernel_rfl)
theorem ze52 : ZeroP Tryz.prog 52 (Vector Int 2) := ZeroP.mk' (by kernel_rfl)
theorem ze53 : ZeroP Tryz.prog 53 (List (Vector Int 2)) := ZeroP.mk' (by kernel_rfl)
theorem ze79 : ZeroP Tryz.prog 79 S_keeper_choice := ZeroP.mk' (by kernel_rfl)
theorem ze82 : ZeroP Tryz.prog 82 S_keeper_want := ZeroP.mk' (by kernel_rfl)
theorem ze9 : ZeroP Tryz.prog 9 ByteArray := ZeroP.mk' (by kernel_rfl)
theorem zi23 : ZeroIs Tryz.prog 23 ((0, 0, 0, 0) : S_api_Offer) := ZeroIs.mk' (cs := [.int .i64 0, .int .i64 0, .int .i64 0, .int .i64 0]) (by kernel_rfl) (fun c => ⟨[.int .i64 0], [.int .i64 0, .int .i64 0, .int .i64 0], rfl, rfl, ⟨[.int .i64 0], [.int .i64 0, .int .i64 0], rfl, rfl, ⟨[.int .i64 0], [.int .i64 0], rfl, rfl, rfl⟩⟩⟩)
theorem zi3 : ZeroIs Tryz.prog 3 (0 : Int) := ZeroIs.mk' (cs := [.int .i64 0]) (by kernel_rfl) (fun c => rfl)
theorem zi33 : ZeroIs Tryz.prog 33 ((0, [], []) : S_api_Market) := ZeroIs.mk' (cs := [.int .i64 0, .slice none 0 0, .slice none 0 0]) (by kernel_rfl) (fun c => ⟨[.int .i64 0], [.slice none 0 0, .slice none 0 0], rfl, rfl, ⟨[.slice none 0 0], [.slice none 0 0], rfl, (.inl ⟨none, 0, rfl, Nat.zero_le _, rfl⟩), (.inl ⟨none, 0, rfl, Nat.zero_le _, rfl⟩)⟩⟩)
theorem zi46 : ZeroIs Tryz.prog 46 ((0, 0) : S_api_Span) := ZeroIs.mk' (cs := [.int .i64 0, .int .i64 0]) (by kernel_rfl) (fun c => ⟨[.int .i64 0], [.int .i64 0], rfl, rfl, rfl⟩)
theorem zi61 : ZeroIs Tryz.prog 61 (#v[0, 0, 0, 0] : Vector Int 4) := ZeroIs.mk' (cs := [.int .i64 0, .int .i64 0, .int .i64 0, .int .i64 0]) (by kernel_rfl) (fun c => (show RepL c [.int .i64 0, .int .i64 0, .int .i64 0, .int .i64 0] ([0, 0, 0, 0] : List Int) from ⟨[.int .i64 0], [.int .i64 0, .int .i64 0, .int .i64 0], rfl, rfl, ⟨[.int .i64 0], [.int .i64 0, .int .i64 0], rfl, rfl, ⟨[.int .i64 0], [.int .i64 0], rfl, rfl, ⟨[.int .i64 0], [], rfl, rfl, rfl⟩⟩⟩⟩))
theorem zi79 : ZeroIs Tryz.prog 79 ((false, 0, 0) : S_keeper_choice) := ZeroIs.mk' (cs := [.bool false, .int .i64 0, .int .i64 0]) (by kernel_rfl) (fun c => ⟨[.bool false], [.int .i64 0, .int .i64 0], rfl, rfl, ⟨[.int .i64 0], [.int .i64 0], rfl, rfl, rfl⟩⟩)
theorem zi82 : ZeroIs Tryz.prog 82 (((fun _ => none), ()) : S_keeper_want) := ZeroIs.mk' (cs := [.nilFunc]) (by kernel_rfl) (fun c => ⟨[.nilFunc], [], rfl, (.inl ⟨rfl, fun _ => rfl⟩), rfl⟩)
theorem zv37 : (Tryz.prog.info? 37).map (·.zero) = some (some (.slice none 0 0)) := by kernel_rfl
theorem zv53 : (Tryz.prog.info? 53).map (·.zero) = some (some (.slice none 0 0)) := by kernel_rfl
theorem eq23 : EqP Tryz.prog 2 23 S_api_Offer := EqP.struct rfl Tryz.underlying23 (by kernel_rfl) ⟨by decide, Int, inferInstance, inferInstance, fun x => x.1, (fun x y => ((x.2.1 == y.2.1) && ((x.2.2.1 == y.2.2.1) && (x.2.2.2 == y.2.2.2)))), ty3, (EqP.int Tryz.underlying3), (fun c vs x h => by have := rep_fst h; exact this), ⟨by decide, Int, inferInstance, inferInstance, fun x => x.2.1, (fun x y => ((x.2.2.1 == y.2.2.1) && (x.2.2.2 == y.2.2.2))), ty3, (EqP.int Tryz.underlying3), (fun c vs x h => by have := rep_fst (rep_snd h); exact this), ⟨by decide, Int, inferInstance, inferInstance, fun x => x.2.2.1, (fun x y => (x.2.2.2 == y.2.2.2)), ty3, (EqP.int Tryz.underlying3), (fun c vs x h => by have := rep_fst (rep_snd (rep_snd h)); simp only [List.drop_drop] at this; exact this), ⟨by decide, Int, inferInstance, inferInstance, fun x => x.2.2.2, (fun x y => true), ty3, (EqP.int Tryz.underlying3), (fun c vs x h => by have := rep_all (rep_snd (rep_snd (rep_snd h))); simp only [List.drop_drop] at this; exact this), fun _ _ => rfl, fun x y => by first | rfl | simp⟩, fun x y => by first | rfl | simp⟩, fun x y => by first | rfl | simp⟩, fun x y => by first | rfl | simp⟩
theorem eg23 : Tryz.prog.eqGuardType Tryz.prog.depth 23 = false := by kernel_rfl
theorem eq46 : EqP Tryz.prog 2 46 S_api_Span := EqP.struct rfl Tryz.underlying46 (by kernel_rfl) ⟨by decide, Int, inferInstance, inferInstance, fun x => x.1, (fun x y => (x.2 == y.2)), ty3, (EqP.int Tryz.underlying3), (fun c vs x h => by have := rep_fst h; exact this), ⟨by decide, Int, inferInstance, inferInstance, fun x => x.2, (fun x y => true), ty3, (EqP.int Tryz.underlying3), (fun c vs x h => by have := rep_all (rep_snd h); exact this), fun _ _ => rfl, fun x y => by first | rfl | simp⟩, fun x y => by first | rfl | simp⟩
theorem eg46 : Tryz.prog.eqGuardType Tryz.prog.depth 46 = false := by kernel_rfl
theorem eq52 : EqP Tryz.prog 2 52 (Vector Int 2) := EqP.array ar52 (EqP.int Tryz.underlying3)
theorem eg52 : Tryz.prog.eqGuardType Tryz.prog.depth 52 = false := by kernel_rfl
theorem eq79 : EqP Tryz.prog 2 79 S_keeper_choice := EqP.struct rfl Tryz.underlying79 (by kernel_rfl) ⟨by decide, Bool, inferInstance, inferInstance, fun x => x.1, (fun x y => ((x.2.1 == y.2.1) && (x.2.2 == y.2.2))), ty4, (EqP.bool Tryz.underlying4), (fun c vs x h => by have := rep_fst h; exact this), ⟨by decide, Int, inferInstance, inferInstance, fun x => x.2.1, (fun x y => (x.2.2 == y.2.2)), ty3, (EqP.int Tryz.underlying3), (fun c vs x h => by have := rep_fst (rep_snd h); exact this), ⟨by decide, Int, inferInstance, inferInstance, fun x => x.2.2, (fun x y => true), ty76, (EqP.int Tryz.underlying76), (fun c vs x h => by have := rep_all (rep_snd (rep_snd h)); simp only [List.drop_drop] at this; exact this), fun _ _ => rfl, fun x y => by first | rfl | simp⟩, fun x y => by first | rfl | simp⟩, fun x y => by first | rfl | simp⟩
theorem eg79 : Tryz.prog.eqGuardType Tryz.prog.depth 79 = false := by kernel_rfl
end Go.Proofs.YtjlagmcdoobimaaGreatDoor
