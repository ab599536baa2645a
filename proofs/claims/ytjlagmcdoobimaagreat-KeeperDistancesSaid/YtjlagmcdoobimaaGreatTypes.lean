/-
  What is proved: facts on the types of the program that the walks use.
-/
import Derived.Test.YtjlagmcdoobimaaGreatChecked
import Derived.Test.YtjlagmcdoobimaaGreatBaseR
import Derived.Test.YtjlagmcdoobimaaGreatData
set_option maxRecDepth 100000
namespace Go.Proofs.YtjlagmcdoobimaaGreat
open Go Go.Proofs.YtjlagmcdoobimaaGreat.Wh

theorem mixed : Tryz.prog.follows .mixedOrders = true := Tryz.checked.mixed
instance enc33 : Enc ((List Int) → Option Bool) := Enc.single (fun c v f => (isFn Tryz.prog (X := List Int) (Y := Bool) (fun x => [isV x]) (fun y => isV y) (f)).p ⟨c, c⟩ v) (fun hc h => (isFn Tryz.prog (X := List Int) (Y := Bool) (fun x => [isV x]) (fun y => isV y) _).mono ⟨hc, hc⟩ h) (fun h => isFn_one h)
theorem od_fn33 {Γ : List (Nat × Pr)} {x : Operand} {f : ((List Int) → Option Bool)} (h : Od Γ x (isV f)) : Od Γ x (isFn Tryz.prog (X := List Int) (Y := Bool) (fun x => [isV x]) (fun y => isV y) (f)) := h
theorem mk_fn33 {Γ : List (Nat × Pr)} {ty : TypeId} {f : ((List Int) → Option Bool)} {g : FuncId} {xs : Array Operand} {κs : List Pr} (hC : OnlyC κs) (he : Enters Tryz.prog g) (hx : OdL Γ xs.toList κs) (h : ∀ (x : List Int) (y : Bool), (f : (List Int) → Option Bool) x = some y → CallOK Tryz.prog g ((fun x => [isV x] : (List Int) → List Pr) x ++ κs) ((fun y => isV y : Bool → Pr) y)) : StepP Tryz.prog (.makeFunc (.func g) #[] xs) ty Γ (isV f) :=
  sp_makeFunc (X := List Int) (Y := Bool) (A := fun x => [isV x]) (R := fun y => isV y) (f := f) hC he hx h
theorem of_fn33 {Γ : List (Nat × Pr)} {f : ((List Int) → Option Bool)} {g : FuncId} (he : Enters Tryz.prog g) (h : ∀ (x : List Int) (y : Bool), (f : (List Int) → Option Bool) x = some y → CallOK Tryz.prog g ((fun x => [isV x] : (List Int) → List Pr) x) ((fun y => isV y : Bool → Pr) y)) : Od Γ (.func g) (isV f) :=
  odf (X := List Int) (Y := Bool) (A := fun x => [isV x]) (R := fun y => isV y) (f := f) he h
instance enc71 : Enc (Int → Option Bool) := Enc.single (fun c v f => (isFn Tryz.prog (X := Int) (Y := Bool) (fun x => [isV x]) (fun y => isV y) (f)).p ⟨c, c⟩ v) (fun hc h => (isFn Tryz.prog (X := Int) (Y := Bool) (fun x => [isV x]) (fun y => isV y) _).mono ⟨hc, hc⟩ h) (fun h => isFn_one h)
theorem od_fn71 {Γ : List (Nat × Pr)} {x : Operand} {f : (Int → Option Bool)} (h : Od Γ x (isV f)) : Od Γ x (isFn Tryz.prog (X := Int) (Y := Bool) (fun x => [isV x]) (fun y => isV y) (f)) := h
theorem mk_fn71 {Γ : List (Nat × Pr)} {ty : TypeId} {f : (Int → Option Bool)} {g : FuncId} {xs : Array Operand} {κs : List Pr} (hC : OnlyC κs) (he : Enters Tryz.prog g) (hx : OdL Γ xs.toList κs) (h : ∀ (x : Int) (y : Bool), (f : Int → Option Bool) x = some y → CallOK Tryz.prog g ((fun x => [isV x] : Int → List Pr) x ++ κs) ((fun y => isV y : Bool → Pr) y)) : StepP Tryz.prog (.makeFunc (.func g) #[] xs) ty Γ (isV f) :=
  sp_makeFunc (X := Int) (Y := Bool) (A := fun x => [isV x]) (R := fun y => isV y) (f := f) hC he hx h
instance enc84 : Enc (Int → Option Bool) := Enc.single (fun c v f => (isFn Tryz.prog (X := Int) (Y := Bool) (fun x => [isV x]) (fun y => isV y) (f)).p ⟨c, c⟩ v) (fun hc h => (isFn Tryz.prog (X := Int) (Y := Bool) (fun x => [isV x]) (fun y => isV y) _).mono ⟨hc, hc⟩ h) (fun h => isFn_one h)
theorem od_fn84 {Γ : List (Nat × Pr)} {x : Operand} {f : (Int → Option Bool)} (h : Od Γ x (isV f)) : Od Γ x (isFn Tryz.prog (X := Int) (Y := Bool) (fun x => [isV x]) (fun y => isV y) (f)) := h
theorem mk_fn84 {Γ : List (Nat × Pr)} {ty : TypeId} {f : (Int → Option Bool)} {g : FuncId} {xs : Array Operand} {κs : List Pr} (hC : OnlyC κs) (he : Enters Tryz.prog g) (hx : OdL Γ xs.toList κs) (h : ∀ (x : Int) (y : Bool), (f : Int → Option Bool) x = some y → CallOK Tryz.prog g ((fun x => [isV x] : Int → List Pr) x ++ κs) ((fun y => isV y : Bool → Pr) y)) : StepP Tryz.prog (.makeFunc (.func g) #[] xs) ty Γ (isV f) :=
  sp_makeFunc (X := Int) (Y := Bool) (A := fun x => [isV x]) (R := fun y => isV y) (f := f) hC he hx h
instance enc111 : Enc ((Vector Int 2) → (Vector Int 2) → Option Int) := Enc.single (fun c v f => (isFn Tryz.prog (X := (Vector Int 2) × (Vector Int 2)) (Y := Int) (fun x => [isV x.1, isV x.2]) (fun y => isV y) (fun x => f x.1 x.2)).p ⟨c, c⟩ v) (fun hc h => (isFn Tryz.prog (X := (Vector Int 2) × (Vector Int 2)) (Y := Int) (fun x => [isV x.1, isV x.2]) (fun y => isV y) _).mono ⟨hc, hc⟩ h) (fun h => isFn_one h)
theorem ty3 : TyP Tryz.prog 3 Int := TyP.mk' Tryz.underlying3 rfl (by kernel_rfl)
theorem ty4 : TyP Tryz.prog 4 Bool := TyP.mk' Tryz.underlying4 rfl (by kernel_rfl)
theorem ty22 : TyP Tryz.prog 22 (List S_api_Offer) := TyP.mk' Tryz.underlying22 rfl (by kernel_rfl)
theorem ty24 : TyP Tryz.prog 24 S_api_Market := TyP.mk' Tryz.underlying24 rfl (by kernel_rfl)
theorem ty25 : TyP Tryz.prog 25 (List Int) := TyP.mk' Tryz.underlying25 rfl (by kernel_rfl)
theorem ty37 : TyP Tryz.prog 37 S_api_Offer := TyP.mk' Tryz.underlying37 rfl (by kernel_rfl)
theorem ty54 : TyP Tryz.prog 54 S_api_Span := TyP.mk' Tryz.underlying54 rfl (by kernel_rfl)
theorem ty57 : TyP Tryz.prog 57 (List S_api_Span) := TyP.mk' Tryz.underlying57 rfl (by kernel_rfl)
theorem ty60 : TyP Tryz.prog 60 (Vector Int 2) := TyP.mk' Tryz.underlying60 rfl (by kernel_rfl)
theorem ty61 : TyP Tryz.prog 61 (List (Vector Int 2)) := TyP.mk' Tryz.underlying61 rfl (by kernel_rfl)
theorem ty77 : TyP Tryz.prog 77 Int := TyP.mk' Tryz.underlying77 rfl (by kernel_rfl)
theorem ty83 : TyP Tryz.prog 83 S_keeper_choice := TyP.mk' Tryz.underlying83 rfl (by kernel_rfl)
theorem ty84 : TyP Tryz.prog 84 (Int → Option Bool) := TyP.mk' Tryz.underlying84 rfl (by kernel_rfl)
theorem ty86 : TyP Tryz.prog 86 S_keeper_want := TyP.mk' Tryz.underlying86 rfl (by kernel_rfl)
theorem sl22 : SlP Tryz.prog 22 37 S_api_Offer := ⟨Tryz.underlying22, ty37⟩
theorem sl25 : SlP Tryz.prog 25 3 Int := ⟨Tryz.underlying25, ty3⟩
theorem sl28 : SlP Tryz.prog 28 25 (List Int) := ⟨Tryz.underlying28, ty25⟩
theorem sl49 : SlP Tryz.prog 49 61 (List (Vector Int 2)) := ⟨Tryz.underlying49, ty61⟩
theorem sl57 : SlP Tryz.prog 57 54 S_api_Span := ⟨Tryz.underlying57, ty54⟩
theorem sl61 : SlP Tryz.prog 61 60 (Vector Int 2) := ⟨Tryz.underlying61, ty60⟩
theorem sl75 : SlP Tryz.prog 75 25 (List Int) := ⟨Tryz.underlying75, ty25⟩
theorem sl112 : SlP Tryz.prog 112 22 (List S_api_Offer) := ⟨Tryz.underlying112, ty22⟩
theorem sl114 : SlP Tryz.prog 114 57 (List S_api_Span) := ⟨Tryz.underlying114, ty57⟩
theorem fd24_0 : FieldP Tryz.prog 24 0 (fun x : S_api_Market => x.1) := FieldP.mk' Tryz.underlying24 rfl (by kernel_rfl) rfl fun c vs x h => by have := rep_fst h; exact this
theorem fd24_1 : FieldP Tryz.prog 24 1 (fun x : S_api_Market => x.2.1) := FieldP.mk' Tryz.underlying24 rfl (by kernel_rfl) rfl fun c vs x h => by have := rep_fst (rep_snd h); exact this
theorem fd24_2 : FieldP Tryz.prog 24 2 (fun x : S_api_Market => x.2.2) := FieldP.mk' Tryz.underlying24 rfl (by kernel_rfl) rfl fun c vs x h => by have := rep_all (rep_snd (rep_snd h)); simp only [List.drop_drop] at this; exact this
theorem fd37_0 : FieldP Tryz.prog 37 0 (fun x : S_api_Offer => x.1) := FieldP.mk' Tryz.underlying37 rfl (by kernel_rfl) rfl fun c vs x h => by have := rep_fst h; exact this
theorem fd37_1 : FieldP Tryz.prog 37 1 (fun x : S_api_Offer => x.2.1) := FieldP.mk' Tryz.underlying37 rfl (by kernel_rfl) rfl fun c vs x h => by have := rep_fst (rep_snd h); exact this
theorem fd37_2 : FieldP Tryz.prog 37 2 (fun x : S_api_Offer => x.2.2.1) := FieldP.mk' Tryz.underlying37 rfl (by kernel_rfl) rfl fun c vs x h => by have := rep_fst (rep_snd (rep_snd h)); simp only [List.drop_drop] at this; exact this
theorem fd37_3 : FieldP Tryz.prog 37 3 (fun x : S_api_Offer => x.2.2.2) := FieldP.mk' Tryz.underlying37 rfl (by kernel_rfl) rfl fun c vs x h => by have := rep_all (rep_snd (rep_snd (rep_snd h))); simp only [List.drop_drop] at this; exact this
theorem fd54_0 : FieldP Tryz.prog 54 0 (fun x : S_api_Span => x.1) := FieldP.mk' Tryz.underlying54 rfl (by kernel_rfl) rfl fun c vs x h => by have := rep_fst h; exact this
theorem fd54_1 : FieldP Tryz.prog 54 1 (fun x : S_api_Span => x.2) := FieldP.mk' Tryz.underlying54 rfl (by kernel_rfl) rfl fun c vs x h => by have := rep_all (rep_snd h); exact this
theorem fd74_0 : FieldP Tryz.prog 74 0 (fun x : S_keeper_numbers => x.1) := FieldP.mk' Tryz.underlying74 rfl (by kernel_rfl) rfl fun c vs x h => by have := rep_fst h; exact this
theorem fd74_1 : FieldP Tryz.prog 74 1 (fun x : S_keeper_numbers => x.2) := FieldP.mk' Tryz.underlying74 rfl (by kernel_rfl) rfl fun c vs x h => by have := rep_all (rep_snd h); exact this
theorem fd83_1 : FieldP Tryz.prog 83 1 (fun x : S_keeper_choice => x.2.1) := FieldP.mk' Tryz.underlying83 rfl (by kernel_rfl) rfl fun c vs x h => by have := rep_fst (rep_snd h); exact this
theorem fd83_2 : FieldP Tryz.prog 83 2 (fun x : S_keeper_choice => x.2.2) := FieldP.mk' Tryz.underlying83 rfl (by kernel_rfl) rfl fun c vs x h => by have := rep_all (rep_snd (rep_snd h)); simp only [List.drop_drop] at this; exact this
theorem fd86_0 : FieldP Tryz.prog 86 0 (fun x : S_keeper_want => x.1) := FieldP.mk' Tryz.underlying86 rfl (by kernel_rfl) rfl fun c vs x h => by have := rep_fst h; exact this
theorem ff86_0 {Γ : List (Nat × Pr)} {ty : TypeId} {x : Operand} {d : S_keeper_want} (hx : Od Γ x (isV d)) : StepP Tryz.prog (.field 86 x 0) ty Γ (isV d.1) := sp_field (f := fun x : S_keeper_want => x.1) Tryz.underlying86 rfl rfl ty84 (fun c vs x h => by have := rep_fst h; exact this) hx
theorem en4 : Enters Tryz.prog 4 := enters_of Tryz.func4 (by kernel_rfl) rfl
theorem en5 : Enters Tryz.prog 5 := enters_of Tryz.func5 (by kernel_rfl) rfl
theorem en6 : Enters Tryz.prog 6 := enters_of Tryz.func6 (by kernel_rfl) rfl
theorem en7 : Enters Tryz.prog 7 := enters_of Tryz.func7 (by kernel_rfl) rfl
theorem en8 : Enters Tryz.prog 8 := enters_of Tryz.func8 (by kernel_rfl) rfl
theorem en9 : Enters Tryz.prog 9 := enters_of Tryz.func9 (by kernel_rfl) rfl
theorem en10 : Enters Tryz.prog 10 := enters_of Tryz.func10 (by kernel_rfl) rfl
theorem en11 : Enters Tryz.prog 11 := enters_of Tryz.func11 (by kernel_rfl) rfl
theorem en12 : Enters Tryz.prog 12 := enters_of Tryz.func12 (by kernel_rfl) rfl
theorem en13 : Enters Tryz.prog 13 := enters_of Tryz.func13 (by kernel_rfl) rfl
theorem en14 : Enters Tryz.prog 14 := enters_of Tryz.func14 (by kernel_rfl) rfl
theorem en15 : Enters Tryz.prog 15 := enters_of Tryz.func15 (by kernel_rfl) rfl
theorem en16 : Enters Tryz.prog 16 := enters_of Tryz.func16 (by kernel_rfl) rfl
theorem en17 : Enters Tryz.prog 17 := enters_of Tryz.func17 (by kernel_rfl) rfl
theorem en18 : Enters Tryz.prog 18 := enters_of Tryz.func18 (by kernel_rfl) rfl
theorem en19 : Enters Tryz.prog 19 := enters_of Tryz.func19 (by kernel_rfl) rfl
theorem en20 : Enters Tryz.prog 20 := enters_of Tryz.func20 (by kernel_rfl) rfl
theorem en21 : Enters Tryz.prog 21 := enters_of Tryz.func21 (by kernel_rfl) rfl
theorem en22 : Enters Tryz.prog 22 := enters_of Tryz.func22 (by kernel_rfl) rfl
theorem en23 : Enters Tryz.prog 23 := enters_of Tryz.func23 (by kernel_rfl) rfl
theorem en24 : Enters Tryz.prog 24 := enters_of Tryz.func24 (by kernel_rfl) rfl
theorem en25 : Enters Tryz.prog 25 := enters_of Tryz.func25 (by kernel_rfl) rfl
theorem en26 : Enters Tryz.prog 26 := enters_of Tryz.func26 (by kernel_rfl) rfl
theorem en27 : Enters Tryz.prog 27 := enters_of Tryz.func27 (by kernel_rfl) rfl
theorem en28 : Enters Tryz.prog 28 := enters_of Tryz.func28 (by kernel_rfl) rfl
theorem en29 : Enters Tryz.prog 29 := enters_of Tryz.func29 (by kernel_rfl) rfl
theorem en30 : Enters Tryz.prog 30 := enters_of Tryz.func30 (by kernel_rfl) rfl
theorem en31 : Enters Tryz.prog 31 := enters_of Tryz.func31 (by kernel_rfl) rfl
theorem en32 : Enters Tryz.prog 32 := enters_of Tryz.func32 (by kernel_rfl) rfl
theorem en33 : Enters Tryz.prog 33 := enters_of Tryz.func33 (by kernel_rfl) rfl
theorem en34 : Enters Tryz.prog 34 := enters_of Tryz.func34 (by kernel_rfl) rfl
theorem en35 : Enters Tryz.prog 35 := enters_of Tryz.func35 (by kernel_rfl) rfl
theorem en36 : Enters Tryz.prog 36 := enters_of Tryz.func36 (by kernel_rfl) rfl
theorem en40 : Enters Tryz.prog 40 := enters_of Tryz.func40 (by kernel_rfl) rfl
theorem en41 : Enters Tryz.prog 41 := enters_of Tryz.func41 (by kernel_rfl) rfl
theorem en42 : Enters Tryz.prog 42 := enters_of Tryz.func42 (by kernel_rfl) rfl
theorem en43 : Enters Tryz.prog 43 := enters_of Tryz.func43 (by kernel_rfl) rfl
theorem en44 : Enters Tryz.prog 44 := enters_of Tryz.func44 (by kernel_rfl) rfl
theorem en45 : Enters Tryz.prog 45 := enters_of Tryz.func45 (by kernel_rfl) rfl
theorem en46 : Enters Tryz.prog 46 := enters_of Tryz.func46 (by kernel_rfl) rfl
theorem en47 : Enters Tryz.prog 47 := enters_of Tryz.func47 (by kernel_rfl) rfl
theorem en48 : Enters Tryz.prog 48 := enters_of Tryz.func48 (by kernel_rfl) rfl
theorem en49 : Enters Tryz.prog 49 := enters_of Tryz.func49 (by kernel_rfl) rfl
theorem en50 : Enters Tryz.prog 50 := enters_of Tryz.func50 (by kernel_rfl) rfl
theorem en51 : Enters Tryz.prog 51 := enters_of Tryz.func51 (by kernel_rfl) rfl
theorem en52 : Enters Tryz.prog 52 := enters_of Tryz.func52 (by kernel_rfl) rfl
theorem en53 : Enters Tryz.prog 53 := enters_of Tryz.func53 (by kernel_rfl) rfl
theorem en54 : Enters Tryz.prog 54 := enters_of Tryz.func54 (by kernel_rfl) rfl
theorem en55 : Enters Tryz.prog 55 := enters_of Tryz.func55 (by kernel_rfl) rfl
theorem en56 : Enters Tryz.prog 56 := enters_of Tryz.func56 (by kernel_rfl) rfl
theorem en57 : Enters Tryz.prog 57 := enters_of Tryz.func57 (by kernel_rfl) rfl
theorem en58 : Enters Tryz.prog 58 := enters_of Tryz.func58 (by kernel_rfl) rfl
theorem en59 : Enters Tryz.prog 59 := enters_of Tryz.func59 (by kernel_rfl) rfl
theorem en63 : Enters Tryz.prog 63 := enters_of Tryz.func63 (by kernel_rfl) rfl
theorem en64 : Enters Tryz.prog 64 := enters_of Tryz.func64 (by kernel_rfl) rfl
theorem en65 : Enters Tryz.prog 65 := enters_of Tryz.func65 (by kernel_rfl) rfl
theorem en66 : Enters Tryz.prog 66 := enters_of Tryz.func66 (by kernel_rfl) rfl
theorem en67 : Enters Tryz.prog 67 := enters_of Tryz.func67 (by kernel_rfl) rfl
theorem en68 : Enters Tryz.prog 68 := enters_of Tryz.func68 (by kernel_rfl) rfl
theorem en69 : Enters Tryz.prog 69 := enters_of Tryz.func69 (by kernel_rfl) rfl
theorem en70 : Enters Tryz.prog 70 := enters_of Tryz.func70 (by kernel_rfl) rfl
theorem en71 : Enters Tryz.prog 71 := enters_of Tryz.func71 (by kernel_rfl) rfl
theorem en72 : Enters Tryz.prog 72 := enters_of Tryz.func72 (by kernel_rfl) rfl
theorem en73 : Enters Tryz.prog 73 := enters_of Tryz.func73 (by kernel_rfl) rfl
theorem en85 : Enters Tryz.prog 85 := enters_of Tryz.func85 (by kernel_rfl) rfl
theorem en87 : Enters Tryz.prog 87 := enters_of Tryz.func87 (by kernel_rfl) rfl
theorem ar60 : ArP Tryz.prog 60 3 2 Int := ⟨Tryz.underlying60, ty3, rfl⟩
theorem bd24_ {Γ : List (Nat × Pr)} {ty : TypeId}   : StepP Tryz.prog (.build 24 #[]) ty Γ (isV ((0, [], []) : S_api_Market)) :=
  step_pure fun c w a hc hm => by
    refine ⟨.agg #[.int .i64 0, .slice none 0 0, .slice none 0 0], ?_, [.int .i64 0, .slice none 0 0, .slice none 0 0], rfl, ⟨[.int .i64 0], [.slice none 0 0, .slice none 0 0], rfl, rfl, ⟨[.slice none 0 0], [.slice none 0 0], rfl, (.inl ⟨none, 0, rfl, Nat.zero_le _, rfl⟩), (.inl ⟨none, 0, rfl, Nat.zero_le _, rfl⟩)⟩⟩⟩
    have zr : (zeroValue 24).run Tryz.prog w = .ok (.agg #[.int .i64 0, .slice none 0 0, .slice none 0 0]) w := by kernel_rfl
    have si3 : (sizeOf 3).run Tryz.prog w = .ok 1 w := by kernel_rfl
    have si22 : (sizeOf 22).run Tryz.prog w = .ok 1 w := by kernel_rfl
    have zq : (Value.agg #[.int .i64 0, .slice none 0 0, .slice none 0 0]).cells = #[.int .i64 0, .slice none 0 0, .slice none 0 0] := rfl
    simp [execOp, plain, Instr.build, zr, run_underlying Tryz.underlying24, zq, Instr.fill]
theorem bd24_02 {Γ : List (Nat × Pr)} {ty : TypeId} {x0 : Int} {o0 : Operand} {x2 : List S_api_Offer} {o2 : Operand} (h0 : Od Γ o0 (isV x0)) (h2 : Od Γ o2 (isV x2)) : StepP Tryz.prog (.build 24 #[(0, o0), (2, o2)]) ty Γ (isV ((x0, [], x2) : S_api_Market)) :=
  step_pure fun c w a hc hm => by
    have g0 := h0.get hm (by simp [Op.operands])
    have c0 := cells_one (α := Int) rfl g0
    have g2 := h2.get hm (by simp [Op.operands])
    have c2 := cells_one (α := List S_api_Offer) rfl g2
    refine ⟨.agg #[a.eval o0, .slice none 0 0, a.eval o2], ?_, [a.eval o0, .slice none 0 0, a.eval o2], rfl, ⟨[a.eval o0], [.slice none 0 0, a.eval o2], rfl, g0, ⟨[.slice none 0 0], [a.eval o2], rfl, (.inl ⟨none, 0, rfl, Nat.zero_le _, rfl⟩), g2⟩⟩⟩
    have zr : (zeroValue 24).run Tryz.prog w = .ok (.agg #[.int .i64 0, .slice none 0 0, .slice none 0 0]) w := by kernel_rfl
    have si3 : (sizeOf 3).run Tryz.prog w = .ok 1 w := by kernel_rfl
    have si22 : (sizeOf 22).run Tryz.prog w = .ok 1 w := by kernel_rfl
    have zq : (Value.agg #[.int .i64 0, .slice none 0 0, .slice none 0 0]).cells = #[.int .i64 0, .slice none 0 0, .slice none 0 0] := rfl
    simp [execOp, plain, Instr.build, zr, run_underlying Tryz.underlying24, zq, Instr.fill, c0, c2]
theorem bd37_0123 {Γ : List (Nat × Pr)} {ty : TypeId} {x0 : Int} {o0 : Operand} {x1 : Int} {o1 : Operand} {x2 : Int} {o2 : Operand} {x3 : Int} {o3 : Operand} (h0 : Od Γ o0 (isV x0)) (h1 : Od Γ o1 (isV x1)) (h2 : Od Γ o2 (isV x2)) (h3 : Od Γ o3 (isV x3)) : StepP Tryz.prog (.build 37 #[(0, o0), (1, o1), (2, o2), (3, o3)]) ty Γ (isV ((x0, x1, x2, x3) : S_api_Offer)) :=
  step_pure fun c w a hc hm => by
    have g0 := h0.get hm (by simp [Op.operands])
    have c0 := cells_one (α := Int) rfl g0
    have g1 := h1.get hm (by simp [Op.operands])
    have c1 := cells_one (α := Int) rfl g1
    have g2 := h2.get hm (by simp [Op.operands])
    have c2 := cells_one (α := Int) rfl g2
    have g3 := h3.get hm (by simp [Op.operands])
    have c3 := cells_one (α := Int) rfl g3
    refine ⟨.agg #[a.eval o0, a.eval o1, a.eval o2, a.eval o3], ?_, [a.eval o0, a.eval o1, a.eval o2, a.eval o3], rfl, ⟨[a.eval o0], [a.eval o1, a.eval o2, a.eval o3], rfl, g0, ⟨[a.eval o1], [a.eval o2, a.eval o3], rfl, g1, ⟨[a.eval o2], [a.eval o3], rfl, g2, g3⟩⟩⟩⟩
    have zr : (zeroValue 37).run Tryz.prog w = .ok (.agg #[.int .i64 0, .int .i64 0, .int .i64 0, .int .i64 0]) w := by kernel_rfl
    have si3 : (sizeOf 3).run Tryz.prog w = .ok 1 w := by kernel_rfl
    have zq : (Value.agg #[.int .i64 0, .int .i64 0, .int .i64 0, .int .i64 0]).cells = #[.int .i64 0, .int .i64 0, .int .i64 0, .int .i64 0] := rfl
    simp [execOp, plain, Instr.build, zr, run_underlying Tryz.underlying37, zq, Instr.fill, c0, c1, c2, c3]
theorem bd54_ {Γ : List (Nat × Pr)} {ty : TypeId}   : StepP Tryz.prog (.build 54 #[]) ty Γ (isV ((0, 0) : S_api_Span)) :=
  step_pure fun c w a hc hm => by
    refine ⟨.agg #[.int .i64 0, .int .i64 0], ?_, [.int .i64 0, .int .i64 0], rfl, ⟨[.int .i64 0], [.int .i64 0], rfl, rfl, rfl⟩⟩
    have zr : (zeroValue 54).run Tryz.prog w = .ok (.agg #[.int .i64 0, .int .i64 0]) w := by kernel_rfl
    have si3 : (sizeOf 3).run Tryz.prog w = .ok 1 w := by kernel_rfl
    have zq : (Value.agg #[.int .i64 0, .int .i64 0]).cells = #[.int .i64 0, .int .i64 0] := rfl
    simp [execOp, plain, Instr.build, zr, run_underlying Tryz.underlying54, zq, Instr.fill]
theorem bd54_01 {Γ : List (Nat × Pr)} {ty : TypeId} {x0 : Int} {o0 : Operand} {x1 : Int} {o1 : Operand} (h0 : Od Γ o0 (isV x0)) (h1 : Od Γ o1 (isV x1)) : StepP Tryz.prog (.build 54 #[(0, o0), (1, o1)]) ty Γ (isV ((x0, x1) : S_api_Span)) :=
  step_pure fun c w a hc hm => by
    have g0 := h0.get hm (by simp [Op.operands])
    have c0 := cells_one (α := Int) rfl g0
    have g1 := h1.get hm (by simp [Op.operands])
    have c1 := cells_one (α := Int) rfl g1
    refine ⟨.agg #[a.eval o0, a.eval o1], ?_, [a.eval o0, a.eval o1], rfl, ⟨[a.eval o0], [a.eval o1], rfl, g0, g1⟩⟩
    have zr : (zeroValue 54).run Tryz.prog w = .ok (.agg #[.int .i64 0, .int .i64 0]) w := by kernel_rfl
    have si3 : (sizeOf 3).run Tryz.prog w = .ok 1 w := by kernel_rfl
    have zq : (Value.agg #[.int .i64 0, .int .i64 0]).cells = #[.int .i64 0, .int .i64 0] := rfl
    simp [execOp, plain, Instr.build, zr, run_underlying Tryz.underlying54, zq, Instr.fill, c0, c1]
theorem bd74_ {Γ : List (Nat × Pr)} {ty : TypeId}   : StepP Tryz.prog (.build 74 #[]) ty Γ (isV (([], []) : S_keeper_numbers)) :=
  step_pure fun c w a hc hm => by
    refine ⟨.agg #[.slice none 0 0, .slice none 0 0], ?_, [.slice none 0 0, .slice none 0 0], rfl, ⟨[.slice none 0 0], [.slice none 0 0], rfl, (.inl ⟨none, 0, rfl, Nat.zero_le _, rfl⟩), (.inl ⟨none, 0, rfl, Nat.zero_le _, rfl⟩)⟩⟩
    have zr : (zeroValue 74).run Tryz.prog w = .ok (.agg #[.slice none 0 0, .slice none 0 0]) w := by kernel_rfl
    have si25 : (sizeOf 25).run Tryz.prog w = .ok 1 w := by kernel_rfl
    have zq : (Value.agg #[.slice none 0 0, .slice none 0 0]).cells = #[.slice none 0 0, .slice none 0 0] := rfl
    simp [execOp, plain, Instr.build, zr, run_underlying Tryz.underlying74, zq, Instr.fill]
theorem bd74_01 {Γ : List (Nat × Pr)} {ty : TypeId} {x0 : List Int} {o0 : Operand} {x1 : List Int} {o1 : Operand} (h0 : Od Γ o0 (isV x0)) (h1 : Od Γ o1 (isV x1)) : StepP Tryz.prog (.build 74 #[(0, o0), (1, o1)]) ty Γ (isV ((x0, x1) : S_keeper_numbers)) :=
  step_pure fun c w a hc hm => by
    have g0 := h0.get hm (by simp [Op.operands])
    have c0 := cells_one (α := List Int) rfl g0
    have g1 := h1.get hm (by simp [Op.operands])
    have c1 := cells_one (α := List Int) rfl g1
    refine ⟨.agg #[a.eval o0, a.eval o1], ?_, [a.eval o0, a.eval o1], rfl, ⟨[a.eval o0], [a.eval o1], rfl, g0, g1⟩⟩
    have zr : (zeroValue 74).run Tryz.prog w = .ok (.agg #[.slice none 0 0, .slice none 0 0]) w := by kernel_rfl
    have si25 : (sizeOf 25).run Tryz.prog w = .ok 1 w := by kernel_rfl
    have zq : (Value.agg #[.slice none 0 0, .slice none 0 0]).cells = #[.slice none 0 0, .slice none 0 0] := rfl
    simp [execOp, plain, Instr.build, zr, run_underlying Tryz.underlying74, zq, Instr.fill, c0, c1]
theorem bd74_0 {Γ : List (Nat × Pr)} {ty : TypeId} {x0 : List Int} {o0 : Operand} (h0 : Od Γ o0 (isV x0)) : StepP Tryz.prog (.build 74 #[(0, o0)]) ty Γ (isV ((x0, []) : S_keeper_numbers)) :=
  step_pure fun c w a hc hm => by
    have g0 := h0.get hm (by simp [Op.operands])
    have c0 := cells_one (α := List Int) rfl g0
    refine ⟨.agg #[a.eval o0, .slice none 0 0], ?_, [a.eval o0, .slice none 0 0], rfl, ⟨[a.eval o0], [.slice none 0 0], rfl, g0, (.inl ⟨none, 0, rfl, Nat.zero_le _, rfl⟩)⟩⟩
    have zr : (zeroValue 74).run Tryz.prog w = .ok (.agg #[.slice none 0 0, .slice none 0 0]) w := by kernel_rfl
    have si25 : (sizeOf 25).run Tryz.prog w = .ok 1 w := by kernel_rfl
    have zq : (Value.agg #[.slice none 0 0, .slice none 0 0]).cells = #[.slice none 0 0, .slice none 0 0] := rfl
    simp [execOp, plain, Instr.build, zr, run_underlying Tryz.underlying74, zq, Instr.fill, c0]
theorem bd74_1 {Γ : List (Nat × Pr)} {ty : TypeId} {x1 : List Int} {o1 : Operand} (h1 : Od Γ o1 (isV x1)) : StepP Tryz.prog (.build 74 #[(1, o1)]) ty Γ (isV (([], x1) : S_keeper_numbers)) :=
  step_pure fun c w a hc hm => by
    have g1 := h1.get hm (by simp [Op.operands])
    have c1 := cells_one (α := List Int) rfl g1
    refine ⟨.agg #[.slice none 0 0, a.eval o1], ?_, [.slice none 0 0, a.eval o1], rfl, ⟨[.slice none 0 0], [a.eval o1], rfl, (.inl ⟨none, 0, rfl, Nat.zero_le _, rfl⟩), g1⟩⟩
    have zr : (zeroValue 74).run Tryz.prog w = .ok (.agg #[.slice none 0 0, .slice none 0 0]) w := by kernel_rfl
    have si25 : (sizeOf 25).run Tryz.prog w = .ok 1 w := by kernel_rfl
    have zq : (Value.agg #[.slice none 0 0, .slice none 0 0]).cells = #[.slice none 0 0, .slice none 0 0] := rfl
    simp [execOp, plain, Instr.build, zr, run_underlying Tryz.underlying74, zq, Instr.fill, c1]
theorem bd83_ {Γ : List (Nat × Pr)} {ty : TypeId}   : StepP Tryz.prog (.build 83 #[]) ty Γ (isV ((false, 0, 0) : S_keeper_choice)) :=
  step_pure fun c w a hc hm => by
    refine ⟨.agg #[.bool false, .int .i64 0, .int .i64 0], ?_, [.bool false, .int .i64 0, .int .i64 0], rfl, ⟨[.bool false], [.int .i64 0, .int .i64 0], rfl, rfl, ⟨[.int .i64 0], [.int .i64 0], rfl, rfl, rfl⟩⟩⟩
    have zr : (zeroValue 83).run Tryz.prog w = .ok (.agg #[.bool false, .int .i64 0, .int .i64 0]) w := by kernel_rfl
    have si3 : (sizeOf 3).run Tryz.prog w = .ok 1 w := by kernel_rfl
    have si4 : (sizeOf 4).run Tryz.prog w = .ok 1 w := by kernel_rfl
    have si77 : (sizeOf 77).run Tryz.prog w = .ok 1 w := by kernel_rfl
    have zq : (Value.agg #[.bool false, .int .i64 0, .int .i64 0]).cells = #[.bool false, .int .i64 0, .int .i64 0] := rfl
    simp [execOp, plain, Instr.build, zr, run_underlying Tryz.underlying83, zq, Instr.fill]
theorem bd83_012 {Γ : List (Nat × Pr)} {ty : TypeId} {x0 : Bool} {o0 : Operand} {x1 : Int} {o1 : Operand} {x2 : Int} {o2 : Operand} (h0 : Od Γ o0 (isV x0)) (h1 : Od Γ o1 (isV x1)) (h2 : Od Γ o2 (isV x2)) : StepP Tryz.prog (.build 83 #[(0, o0), (1, o1), (2, o2)]) ty Γ (isV ((x0, x1, x2) : S_keeper_choice)) :=
  step_pure fun c w a hc hm => by
    have g0 := h0.get hm (by simp [Op.operands])
    have c0 := cells_one (α := Bool) rfl g0
    have g1 := h1.get hm (by simp [Op.operands])
    have c1 := cells_one (α := Int) rfl g1
    have g2 := h2.get hm (by simp [Op.operands])
    have c2 := cells_one (α := Int) rfl g2
    refine ⟨.agg #[a.eval o0, a.eval o1, a.eval o2], ?_, [a.eval o0, a.eval o1, a.eval o2], rfl, ⟨[a.eval o0], [a.eval o1, a.eval o2], rfl, g0, ⟨[a.eval o1], [a.eval o2], rfl, g1, g2⟩⟩⟩
    have zr : (zeroValue 83).run Tryz.prog w = .ok (.agg #[.bool false, .int .i64 0, .int .i64 0]) w := by kernel_rfl
    have si3 : (sizeOf 3).run Tryz.prog w = .ok 1 w := by kernel_rfl
    have si4 : (sizeOf 4).run Tryz.prog w = .ok 1 w := by kernel_rfl
    have si77 : (sizeOf 77).run Tryz.prog w = .ok 1 w := by kernel_rfl
    have zq : (Value.agg #[.bool false, .int .i64 0, .int .i64 0]).cells = #[.bool false, .int .i64 0, .int .i64 0] := rfl
    simp [execOp, plain, Instr.build, zr, run_underlying Tryz.underlying83, zq, Instr.fill, c0, c1, c2]
theorem bd86_0 {Γ : List (Nat × Pr)} {ty : TypeId} {x0 : (Int → Option Bool)} {o0 : Operand} (h0 : Od Γ o0 (isV x0)) : StepP Tryz.prog (.build 86 #[(0, o0)]) ty Γ (isV ((x0, ()) : S_keeper_want)) :=
  step_pure fun c w a hc hm => by
    have g0 := h0.get hm (by simp [Op.operands])
    have c0 := cells_one (α := (Int → Option Bool)) rfl g0
    refine ⟨.agg #[a.eval o0], ?_, [a.eval o0], rfl, ⟨[a.eval o0], [], rfl, g0, rfl⟩⟩
    have zr : (zeroValue 86).run Tryz.prog w = .ok (.agg #[.nilFunc]) w := by kernel_rfl
    have si84 : (sizeOf 84).run Tryz.prog w = .ok 1 w := by kernel_rfl
    have zq : (Value.agg #[.nilFunc]).cells = #[.nilFunc] := rfl
    simp [execOp, plain, Instr.build, zr, run_underlying Tryz.underlying86, zq, Instr.fill, c0]
theorem bd60 {Γ : List (Nat × Pr)} {ty : TypeId} {x0 : Int} {o0 : Operand} {x1 : Int} {o1 : Operand} (h0 : Od Γ o0 (isV x0)) (h1 : Od Γ o1 (isV x1)) : StepP Tryz.prog (.build 60 #[(0, o0), (1, o1)]) ty Γ (isV (#v[x0, x1] : Vector Int 2)) :=
  step_pure fun c w a hc hm => by
    have g0 := h0.get hm (by simp [Op.operands])
    have c0 := cells_one (α := Int) rfl g0
    have g1 := h1.get hm (by simp [Op.operands])
    have c1 := cells_one (α := Int) rfl g1
    refine ⟨.agg #[a.eval o0, a.eval o1], ?_, [a.eval o0, a.eval o1], rfl, ⟨[a.eval o0], [a.eval o1], rfl, g0, ⟨[a.eval o1], [], rfl, g1, rfl⟩⟩⟩
    have zr : (zeroValue 60).run Tryz.prog w = .ok (.agg #[.int .i64 0, .int .i64 0]) w := by kernel_rfl
    have si3 : (sizeOf 3).run Tryz.prog w = .ok 1 w := by kernel_rfl
    have zq : (Value.agg #[.int .i64 0, .int .i64 0]).cells = #[.int .i64 0, .int .i64 0] := rfl
    simp [execOp, plain, Instr.build, zr, run_underlying Tryz.underlying60, zq, Instr.fill, c0, c1]
theorem sz25 : (Tryz.prog.info? 25).map (·.size) = some 1 := by kernel_rfl
theorem sz61 : (Tryz.prog.info? 61).map (·.size) = some 1 := by kernel_rfl
theorem ze22 : ZeroP Tryz.prog 22 (List S_api_Offer) := ZeroP.mk' (by kernel_rfl)
theorem ze24 : ZeroP Tryz.prog 24 S_api_Market := ZeroP.mk' (by kernel_rfl)
theorem ze25 : ZeroP Tryz.prog 25 (List Int) := ZeroP.mk' (by kernel_rfl)
theorem ze3 : ZeroP Tryz.prog 3 Int := ZeroP.mk' (by kernel_rfl)
theorem ze37 : ZeroP Tryz.prog 37 S_api_Offer := ZeroP.mk' (by kernel_rfl)
theorem ze54 : ZeroP Tryz.prog 54 S_api_Span := ZeroP.mk' (by kernel_rfl)
theorem ze57 : ZeroP Tryz.prog 57 (List S_api_Span) := ZeroP.mk' (by kernel_rfl)
theorem ze60 : ZeroP Tryz.prog 60 (Vector Int 2) := ZeroP.mk' (by kernel_rfl)
theorem ze61 : ZeroP Tryz.prog 61 (List (Vector Int 2)) := ZeroP.mk' (by kernel_rfl)
theorem ze83 : ZeroP Tryz.prog 83 S_keeper_choice := ZeroP.mk' (by kernel_rfl)
theorem ze86 : ZeroP Tryz.prog 86 S_keeper_want := ZeroP.mk' (by kernel_rfl)
theorem zi24 : ZeroIs Tryz.prog 24 ((0, [], []) : S_api_Market) := ZeroIs.mk' (cs := [.int .i64 0, .slice none 0 0, .slice none 0 0]) (by kernel_rfl) (fun c => ⟨[.int .i64 0], [.slice none 0 0, .slice none 0 0], rfl, rfl, ⟨[.slice none 0 0], [.slice none 0 0], rfl, (.inl ⟨none, 0, rfl, Nat.zero_le _, rfl⟩), (.inl ⟨none, 0, rfl, Nat.zero_le _, rfl⟩)⟩⟩)
theorem zi3 : ZeroIs Tryz.prog 3 (0 : Int) := ZeroIs.mk' (cs := [.int .i64 0]) (by kernel_rfl) (fun c => rfl)
theorem zi37 : ZeroIs Tryz.prog 37 ((0, 0, 0, 0) : S_api_Offer) := ZeroIs.mk' (cs := [.int .i64 0, .int .i64 0, .int .i64 0, .int .i64 0]) (by kernel_rfl) (fun c => ⟨[.int .i64 0], [.int .i64 0, .int .i64 0, .int .i64 0], rfl, rfl, ⟨[.int .i64 0], [.int .i64 0, .int .i64 0], rfl, rfl, ⟨[.int .i64 0], [.int .i64 0], rfl, rfl, rfl⟩⟩⟩)
theorem zi54 : ZeroIs Tryz.prog 54 ((0, 0) : S_api_Span) := ZeroIs.mk' (cs := [.int .i64 0, .int .i64 0]) (by kernel_rfl) (fun c => ⟨[.int .i64 0], [.int .i64 0], rfl, rfl, rfl⟩)
theorem zi83 : ZeroIs Tryz.prog 83 ((false, 0, 0) : S_keeper_choice) := ZeroIs.mk' (cs := [.bool false, .int .i64 0, .int .i64 0]) (by kernel_rfl) (fun c => ⟨[.bool false], [.int .i64 0, .int .i64 0], rfl, rfl, ⟨[.int .i64 0], [.int .i64 0], rfl, rfl, rfl⟩⟩)
theorem zi86 : ZeroIs Tryz.prog 86 (((fun _ => none), ()) : S_keeper_want) := ZeroIs.mk' (cs := [.nilFunc]) (by kernel_rfl) (fun c => ⟨[.nilFunc], [], rfl, (.inl ⟨rfl, fun _ => rfl⟩), rfl⟩)
theorem zv25 : (Tryz.prog.info? 25).map (·.zero) = some (some (.slice none 0 0)) := by kernel_rfl
theorem zv61 : (Tryz.prog.info? 61).map (·.zero) = some (some (.slice none 0 0)) := by kernel_rfl
theorem eq54 : EqP Tryz.prog 2 54 S_api_Span := EqP.struct rfl Tryz.underlying54 (by kernel_rfl) ⟨by decide, Int, inferInstance, inferInstance, fun x => x.1, (fun x y => (x.2 == y.2)), ty3, (EqP.int Tryz.underlying3), (fun c vs x h => by have := rep_fst h; exact this), ⟨by decide, Int, inferInstance, inferInstance, fun x => x.2, (fun x y => true), ty3, (EqP.int Tryz.underlying3), (fun c vs x h => by have := rep_all (rep_snd h); exact this), fun _ _ => rfl, fun x y => by first | rfl | simp⟩, fun x y => by first | rfl | simp⟩
theorem eg54 : Tryz.prog.eqGuardType Tryz.prog.depth 54 = false := by kernel_rfl
theorem eq60 : EqP Tryz.prog 2 60 (Vector Int 2) := EqP.array ar60 (EqP.int Tryz.underlying3)
theorem eg60 : Tryz.prog.eqGuardType Tryz.prog.depth 60 = false := by kernel_rfl
theorem eq83 : EqP Tryz.prog 2 83 S_keeper_choice := EqP.struct rfl Tryz.underlying83 (by kernel_rfl) ⟨by decide, Bool, inferInstance, inferInstance, fun x => x.1, (fun x y => ((x.2.1 == y.2.1) && (x.2.2 == y.2.2))), ty4, (EqP.bool Tryz.underlying4), (fun c vs x h => by have := rep_fst h; exact this), ⟨by decide, Int, inferInstance, inferInstance, fun x => x.2.1, (fun x y => (x.2.2 == y.2.2)), ty3, (EqP.int Tryz.underlying3), (fun c vs x h => by have := rep_fst (rep_snd h); exact this), ⟨by decide, Int, inferInstance, inferInstance, fun x => x.2.2, (fun x y => true), ty77, (EqP.int Tryz.underlying77), (fun c vs x h => by have := rep_all (rep_snd (rep_snd h)); simp only [List.drop_drop] at this; exact this), fun _ _ => rfl, fun x y => by first | rfl | simp⟩, fun x y => by first | rfl | simp⟩, fun x y => by first | rfl | simp⟩
theorem eg83 : Tryz.prog.eqGuardType Tryz.prog.depth 83 = false := by kernel_rfl
end Go.Proofs.YtjlagmcdoobimaaGreat
