/-
  What is proved: facts on the types of the program that the walks use.
-/
import Derived.Test.YtnnhmgcigoiceaaGreatDoorChecked
import Derived.Test.YtnnhmgcigoiceaaGreatDoorBaseS
import Derived.Test.YtnnhmgcigoiceaaGreatDoorData
set_option maxRecDepth 100000
namespace Go.Proofs.YtnnhmgcigoiceaaGreatDoor
open Go Go.Proofs.YtnnhmgcigoiceaaGreatDoor.Wh

theorem mixed : Tryz.prog.follows .mixedOrders = true := Tryz.checked.mixed
instance enc74 : Enc ((List Int) → (List Int) → Option Int) := Enc.single (fun c v f => (isFn Tryz.prog (X := (List Int) × (List Int)) (Y := Int) (fun x => [isV x.1, isV x.2]) (fun y => isV y) (fun x => f x.1 x.2)).p ⟨c, c⟩ v) (fun hc h => (isFn Tryz.prog (X := (List Int) × (List Int)) (Y := Int) (fun x => [isV x.1, isV x.2]) (fun y => isV y) _).mono ⟨hc, hc⟩ h) (fun h => isFn_one h)
theorem od_fn74 {Γ : List (Nat × Pr)} {x : Operand} {f : ((List Int) → (List Int) → Option Int)} (h : Od Γ x (isV f)) : Od Γ x (isFn Tryz.prog (X := (List Int) × (List Int)) (Y := Int) (fun x => [isV x.1, isV x.2]) (fun y => isV y) (fun x => f x.1 x.2)) := h
theorem mk_fn74 {Γ : List (Nat × Pr)} {ty : TypeId} {f : ((List Int) → (List Int) → Option Int)} {g : FuncId} {xs : Array Operand} {κs : List Pr} (hC : OnlyC κs) (he : Enters Tryz.prog g) (hx : OdL Γ xs.toList κs) (h : ∀ (x : (List Int) × (List Int)) (y : Int), (fun x => f x.1 x.2 : ((List Int) × (List Int)) → Option Int) x = some y → CallOK Tryz.prog g ((fun x => [isV x.1, isV x.2] : ((List Int) × (List Int)) → List Pr) x ++ κs) ((fun y => isV y : Int → Pr) y)) : StepP Tryz.prog (.makeFunc (.func g) #[] xs) ty Γ (isV f) :=
  sp_makeFunc (X := (List Int) × (List Int)) (Y := Int) (A := fun x => [isV x.1, isV x.2]) (R := fun y => isV y) (f := fun x => f x.1 x.2) hC he hx h
instance enc87 : Enc (Int → Option Bool) := Enc.single (fun c v f => (isFn Tryz.prog (X := Int) (Y := Bool) (fun x => [isV x]) (fun y => isV y) (f)).p ⟨c, c⟩ v) (fun hc h => (isFn Tryz.prog (X := Int) (Y := Bool) (fun x => [isV x]) (fun y => isV y) _).mono ⟨hc, hc⟩ h) (fun h => isFn_one h)
theorem od_fn87 {Γ : List (Nat × Pr)} {x : Operand} {f : (Int → Option Bool)} (h : Od Γ x (isV f)) : Od Γ x (isFn Tryz.prog (X := Int) (Y := Bool) (fun x => [isV x]) (fun y => isV y) (f)) := h
theorem mk_fn87 {Γ : List (Nat × Pr)} {ty : TypeId} {f : (Int → Option Bool)} {g : FuncId} {xs : Array Operand} {κs : List Pr} (hC : OnlyC κs) (he : Enters Tryz.prog g) (hx : OdL Γ xs.toList κs) (h : ∀ (x : Int) (y : Bool), (f : Int → Option Bool) x = some y → CallOK Tryz.prog g ((fun x => [isV x] : Int → List Pr) x ++ κs) ((fun y => isV y : Bool → Pr) y)) : StepP Tryz.prog (.makeFunc (.func g) #[] xs) ty Γ (isV f) :=
  sp_makeFunc (X := Int) (Y := Bool) (A := fun x => [isV x]) (R := fun y => isV y) (f := f) hC he hx h
theorem of_fn87 {Γ : List (Nat × Pr)} {f : (Int → Option Bool)} {g : FuncId} (he : Enters Tryz.prog g) (h : ∀ (x : Int) (y : Bool), (f : Int → Option Bool) x = some y → CallOK Tryz.prog g ((fun x => [isV x] : Int → List Pr) x) ((fun y => isV y : Bool → Pr) y)) : Od Γ (.func g) (isV f) :=
  odf (X := Int) (Y := Bool) (A := fun x => [isV x]) (R := fun y => isV y) (f := f) he h
instance enc117 : Enc (S_watch_lag → Option Bool) := Enc.single (fun c v f => (isFn Tryz.prog (X := S_watch_lag) (Y := Bool) (fun x => [isV x]) (fun y => isV y) (f)).p ⟨c, c⟩ v) (fun hc h => (isFn Tryz.prog (X := S_watch_lag) (Y := Bool) (fun x => [isV x]) (fun y => isV y) _).mono ⟨hc, hc⟩ h) (fun h => isFn_one h)
theorem od_fn117 {Γ : List (Nat × Pr)} {x : Operand} {f : (S_watch_lag → Option Bool)} (h : Od Γ x (isV f)) : Od Γ x (isFn Tryz.prog (X := S_watch_lag) (Y := Bool) (fun x => [isV x]) (fun y => isV y) (f)) := h
theorem mk_fn117 {Γ : List (Nat × Pr)} {ty : TypeId} {f : (S_watch_lag → Option Bool)} {g : FuncId} {xs : Array Operand} {κs : List Pr} (hC : OnlyC κs) (he : Enters Tryz.prog g) (hx : OdL Γ xs.toList κs) (h : ∀ (x : S_watch_lag) (y : Bool), (f : S_watch_lag → Option Bool) x = some y → CallOK Tryz.prog g ((fun x => [isV x] : S_watch_lag → List Pr) x ++ κs) ((fun y => isV y : Bool → Pr) y)) : StepP Tryz.prog (.makeFunc (.func g) #[] xs) ty Γ (isV f) :=
  sp_makeFunc (X := S_watch_lag) (Y := Bool) (A := fun x => [isV x]) (R := fun y => isV y) (f := f) hC he hx h
theorem of_fn117 {Γ : List (Nat × Pr)} {f : (S_watch_lag → Option Bool)} {g : FuncId} (he : Enters Tryz.prog g) (h : ∀ (x : S_watch_lag) (y : Bool), (f : S_watch_lag → Option Bool) x = some y → CallOK Tryz.prog g ((fun x => [isV x] : S_watch_lag → List Pr) x) ((fun y => isV y : Bool → Pr) y)) : Od Γ (.func g) (isV f) :=
  odf (X := S_watch_lag) (Y := Bool) (A := fun x => [isV x]) (R := fun y => isV y) (f := f) he h
theorem ty3 : TyP Tryz.prog 3 Int := TyP.mk' Tryz.underlying3 rfl (by kernel_rfl)
theorem ty4 : TyP Tryz.prog 4 Bool := TyP.mk' Tryz.underlying4 rfl (by kernel_rfl)
theorem ty9 : TyP Tryz.prog 9 ByteArray := TyP.mk' Tryz.underlying9 rfl (by kernel_rfl)
theorem ty23 : TyP Tryz.prog 23 S_api_Turn := TyP.mk' Tryz.underlying23 rfl (by kernel_rfl)
theorem ty31 : TyP Tryz.prog 31 (List (List Int)) := TyP.mk' Tryz.underlying31 rfl (by kernel_rfl)
theorem ty32 : TyP Tryz.prog 32 (List S_api_Turn) := TyP.mk' Tryz.underlying32 rfl (by kernel_rfl)
theorem ty34 : TyP Tryz.prog 34 S_api_Roster := TyP.mk' Tryz.underlying34 rfl (by kernel_rfl)
theorem ty39 : TyP Tryz.prog 39 (List Int) := TyP.mk' Tryz.underlying39 rfl (by kernel_rfl)
theorem ty66 : TyP Tryz.prog 66 S_watch_lag := TyP.mk' Tryz.underlying66 rfl (by kernel_rfl)
theorem ty74 : TyP Tryz.prog 74 ((List Int) → (List Int) → Option Int) := TyP.mk' Tryz.underlying74 rfl (by kernel_rfl)
theorem ty80 : TyP Tryz.prog 80 S_watch_bounds := TyP.mk' Tryz.underlying80 rfl (by kernel_rfl)
theorem ty87 : TyP Tryz.prog 87 (Int → Option Bool) := TyP.mk' Tryz.underlying87 rfl (by kernel_rfl)
theorem ty91 : TyP Tryz.prog 91 (Vector Int 8) := TyP.mk' Tryz.underlying91 rfl (by kernel_rfl)
theorem ty93 : TyP Tryz.prog 93 (Vector (Vector Int 8) 8) := TyP.mk' Tryz.underlying93 rfl (by kernel_rfl)
theorem ty115 : TyP Tryz.prog 115 (List S_watch_lag) := TyP.mk' Tryz.underlying115 rfl (by kernel_rfl)
theorem ty117 : TyP Tryz.prog 117 (S_watch_lag → Option Bool) := TyP.mk' Tryz.underlying117 rfl (by kernel_rfl)
theorem ty100039 : TyP Tryz.prog 39 (NL Int) := TyP.mk' Tryz.underlying39 rfl (by kernel_rfl)
theorem sl31 : SlP Tryz.prog 31 39 (List Int) := ⟨Tryz.underlying31, ty39⟩
theorem sl32 : SlP Tryz.prog 32 23 S_api_Turn := ⟨Tryz.underlying32, ty23⟩
theorem sl39 : SlP Tryz.prog 39 3 Int := ⟨Tryz.underlying39, ty3⟩
theorem sl54 : SlP Tryz.prog 54 9 ByteArray := ⟨Tryz.underlying54, ty9⟩
theorem sl115 : SlP Tryz.prog 115 66 S_watch_lag := ⟨Tryz.underlying115, ty66⟩
theorem sl100031 : SlP Tryz.prog 31 39 (NL Int) := ⟨Tryz.underlying31, ty100039⟩
theorem fd23_0 : FieldP Tryz.prog 23 0 (fun x : S_api_Turn => x.1) := FieldP.mk' Tryz.underlying23 rfl (by kernel_rfl) rfl fun c vs x h => by have := rep_fst h; exact this
theorem fd23_1 : FieldP Tryz.prog 23 1 (fun x : S_api_Turn => x.2.1) := FieldP.mk' Tryz.underlying23 rfl (by kernel_rfl) rfl fun c vs x h => by have := rep_fst (rep_snd h); exact this
theorem fd23_2 : FieldP Tryz.prog 23 2 (fun x : S_api_Turn => x.2.2.1) := FieldP.mk' Tryz.underlying23 rfl (by kernel_rfl) rfl fun c vs x h => by have := rep_fst (rep_snd (rep_snd h)); simp only [List.drop_drop] at this; exact this
theorem fd23_3 : FieldP Tryz.prog 23 3 (fun x : S_api_Turn => x.2.2.2.1) := FieldP.mk' Tryz.underlying23 rfl (by kernel_rfl) rfl fun c vs x h => by have := rep_fst (rep_snd (rep_snd (rep_snd h))); simp only [List.drop_drop] at this; exact this
theorem fd23_4 : FieldP Tryz.prog 23 4 (fun x : S_api_Turn => x.2.2.2.2.1) := FieldP.mk' Tryz.underlying23 rfl (by kernel_rfl) rfl fun c vs x h => by have := rep_fst (rep_snd (rep_snd (rep_snd (rep_snd h)))); simp only [List.drop_drop] at this; exact this
theorem fd23_5 : FieldP Tryz.prog 23 5 (fun x : S_api_Turn => x.2.2.2.2.2) := FieldP.mk' Tryz.underlying23 rfl (by kernel_rfl) rfl fun c vs x h => by have := rep_all (rep_snd (rep_snd (rep_snd (rep_snd (rep_snd h))))); simp only [List.drop_drop] at this; exact this
theorem fd34_0 : FieldP Tryz.prog 34 0 (fun x : S_api_Roster => x.1) := FieldP.mk' Tryz.underlying34 rfl (by kernel_rfl) rfl fun c vs x h => by have := rep_fst h; exact this
theorem fd34_1 : FieldP Tryz.prog 34 1 (fun x : S_api_Roster => x.2.1) := FieldP.mk' Tryz.underlying34 rfl (by kernel_rfl) rfl fun c vs x h => by have := rep_fst (rep_snd h); exact this
theorem fd34_2 : FieldP Tryz.prog 34 2 (fun x : S_api_Roster => x.2.2.1) := FieldP.mk' Tryz.underlying34 rfl (by kernel_rfl) rfl fun c vs x h => by have := rep_fst (rep_snd (rep_snd h)); simp only [List.drop_drop] at this; exact this
theorem fd34_3 : FieldP Tryz.prog 34 3 (fun x : S_api_Roster => x.2.2.2.1) := FieldP.mk' Tryz.underlying34 rfl (by kernel_rfl) rfl fun c vs x h => by have := rep_fst (rep_snd (rep_snd (rep_snd h))); simp only [List.drop_drop] at this; exact this
theorem fd34_4 : FieldP Tryz.prog 34 4 (fun x : S_api_Roster => x.2.2.2.2) := FieldP.mk' Tryz.underlying34 rfl (by kernel_rfl) rfl fun c vs x h => by have := rep_all (rep_snd (rep_snd (rep_snd (rep_snd h)))); simp only [List.drop_drop] at this; exact this
theorem fd66_0 : FieldP Tryz.prog 66 0 (fun x : S_watch_lag => x.1) := FieldP.mk' Tryz.underlying66 rfl (by kernel_rfl) rfl fun c vs x h => by have := rep_fst h; exact this
theorem fd66_1 : FieldP Tryz.prog 66 1 (fun x : S_watch_lag => x.2) := FieldP.mk' Tryz.underlying66 rfl (by kernel_rfl) rfl fun c vs x h => by have := rep_all (rep_snd h); exact this
theorem fd80_0 : FieldP Tryz.prog 80 0 (fun x : S_watch_bounds => x.1) := FieldP.mk' Tryz.underlying80 rfl (by kernel_rfl) rfl fun c vs x h => by have := rep_fst h; exact this
theorem fd80_1 : FieldP Tryz.prog 80 1 (fun x : S_watch_bounds => x.2) := FieldP.mk' Tryz.underlying80 rfl (by kernel_rfl) rfl fun c vs x h => by have := rep_all (rep_snd h); exact this
theorem en4 : Enters Tryz.prog 4 := enters_of Tryz.func4 (by kernel_rfl) rfl
theorem en5 : Enters Tryz.prog 5 := enters_of Tryz.func5 (by kernel_rfl) rfl
theorem en6 : Enters Tryz.prog 6 := enters_of Tryz.func6 (by kernel_rfl) rfl
theorem en7 : Enters Tryz.prog 7 := enters_of Tryz.func7 (by kernel_rfl) rfl
theorem en8 : Enters Tryz.prog 8 := enters_of Tryz.func8 (by kernel_rfl) rfl
theorem en9 : Enters Tryz.prog 9 := enters_of Tryz.func9 (by kernel_rfl) rfl
theorem en10 : Enters Tryz.prog 10 := enters_of Tryz.func10 (by kernel_rfl) rfl
theorem en11 : Enters Tryz.prog 11 := enters_of Tryz.func11 (by kernel_rfl) rfl
theorem en12 : Enters Tryz.prog 12 := enters_of Tryz.func12 (by kernel_rfl) rfl
theorem en13 : Enters Tryz.prog 13 := enters_of Tryz.func13 (by kernel_rfl) rfl
theorem en14 : Enters Tryz.prog 14 := enters_of Tryz.func14 (by kernel_rfl) rfl
theorem en15 : Enters Tryz.prog 15 := enters_of Tryz.func15 (by kernel_rfl) rfl
theorem en16 : Enters Tryz.prog 16 := enters_of Tryz.func16 (by kernel_rfl) rfl
theorem en17 : Enters Tryz.prog 17 := enters_of Tryz.func17 (by kernel_rfl) rfl
theorem en18 : Enters Tryz.prog 18 := enters_of Tryz.func18 (by kernel_rfl) rfl
theorem en19 : Enters Tryz.prog 19 := enters_of Tryz.func19 (by kernel_rfl) rfl
theorem en20 : Enters Tryz.prog 20 := enters_of Tryz.func20 (by kernel_rfl) rfl
theorem en21 : Enters Tryz.prog 21 := enters_of Tryz.func21 (by kernel_rfl) rfl
theorem en22 : Enters Tryz.prog 22 := enters_of Tryz.func22 (by kernel_rfl) rfl
theorem en23 : Enters Tryz.prog 23 := enters_of Tryz.func23 (by kernel_rfl) rfl
theorem en24 : Enters Tryz.prog 24 := enters_of Tryz.func24 (by kernel_rfl) rfl
theorem en25 : Enters Tryz.prog 25 := enters_of Tryz.func25 (by kernel_rfl) rfl
theorem en26 : Enters Tryz.prog 26 := enters_of Tryz.func26 (by kernel_rfl) rfl
theorem en27 : Enters Tryz.prog 27 := enters_of Tryz.func27 (by kernel_rfl) rfl
theorem en28 : Enters Tryz.prog 28 := enters_of Tryz.func28 (by kernel_rfl) rfl
theorem en32 : Enters Tryz.prog 32 := enters_of Tryz.func32 (by kernel_rfl) rfl
theorem en33 : Enters Tryz.prog 33 := enters_of Tryz.func33 (by kernel_rfl) rfl
theorem en34 : Enters Tryz.prog 34 := enters_of Tryz.func34 (by kernel_rfl) rfl
theorem en35 : Enters Tryz.prog 35 := enters_of Tryz.func35 (by kernel_rfl) rfl
theorem en36 : Enters Tryz.prog 36 := enters_of Tryz.func36 (by kernel_rfl) rfl
theorem en37 : Enters Tryz.prog 37 := enters_of Tryz.func37 (by kernel_rfl) rfl
theorem en38 : Enters Tryz.prog 38 := enters_of Tryz.func38 (by kernel_rfl) rfl
theorem en39 : Enters Tryz.prog 39 := enters_of Tryz.func39 (by kernel_rfl) rfl
theorem en40 : Enters Tryz.prog 40 := enters_of Tryz.func40 (by kernel_rfl) rfl
theorem en41 : Enters Tryz.prog 41 := enters_of Tryz.func41 (by kernel_rfl) rfl
theorem en42 : Enters Tryz.prog 42 := enters_of Tryz.func42 (by kernel_rfl) rfl
theorem en43 : Enters Tryz.prog 43 := enters_of Tryz.func43 (by kernel_rfl) rfl
theorem en44 : Enters Tryz.prog 44 := enters_of Tryz.func44 (by kernel_rfl) rfl
theorem en45 : Enters Tryz.prog 45 := enters_of Tryz.func45 (by kernel_rfl) rfl
theorem en46 : Enters Tryz.prog 46 := enters_of Tryz.func46 (by kernel_rfl) rfl
theorem en47 : Enters Tryz.prog 47 := enters_of Tryz.func47 (by kernel_rfl) rfl
theorem en48 : Enters Tryz.prog 48 := enters_of Tryz.func48 (by kernel_rfl) rfl
theorem en49 : Enters Tryz.prog 49 := enters_of Tryz.func49 (by kernel_rfl) rfl
theorem en50 : Enters Tryz.prog 50 := enters_of Tryz.func50 (by kernel_rfl) rfl
theorem en51 : Enters Tryz.prog 51 := enters_of Tryz.func51 (by kernel_rfl) rfl
theorem en52 : Enters Tryz.prog 52 := enters_of Tryz.func52 (by kernel_rfl) rfl
theorem en53 : Enters Tryz.prog 53 := enters_of Tryz.func53 (by kernel_rfl) rfl
theorem en54 : Enters Tryz.prog 54 := enters_of Tryz.func54 (by kernel_rfl) rfl
theorem en55 : Enters Tryz.prog 55 := enters_of Tryz.func55 (by kernel_rfl) rfl
theorem en56 : Enters Tryz.prog 56 := enters_of Tryz.func56 (by kernel_rfl) rfl
theorem en57 : Enters Tryz.prog 57 := enters_of Tryz.func57 (by kernel_rfl) rfl
theorem en58 : Enters Tryz.prog 58 := enters_of Tryz.func58 (by kernel_rfl) rfl
theorem en59 : Enters Tryz.prog 59 := enters_of Tryz.func59 (by kernel_rfl) rfl
theorem en60 : Enters Tryz.prog 60 := enters_of Tryz.func60 (by kernel_rfl) rfl
theorem en61 : Enters Tryz.prog 61 := enters_of Tryz.func61 (by kernel_rfl) rfl
theorem en62 : Enters Tryz.prog 62 := enters_of Tryz.func62 (by kernel_rfl) rfl
theorem en63 : Enters Tryz.prog 63 := enters_of Tryz.func63 (by kernel_rfl) rfl
theorem en64 : Enters Tryz.prog 64 := enters_of Tryz.func64 (by kernel_rfl) rfl
theorem en65 : Enters Tryz.prog 65 := enters_of Tryz.func65 (by kernel_rfl) rfl
theorem en66 : Enters Tryz.prog 66 := enters_of Tryz.func66 (by kernel_rfl) rfl
theorem en67 : Enters Tryz.prog 67 := enters_of Tryz.func67 (by kernel_rfl) rfl
theorem en68 : Enters Tryz.prog 68 := enters_of Tryz.func68 (by kernel_rfl) rfl
theorem en69 : Enters Tryz.prog 69 := enters_of Tryz.func69 (by kernel_rfl) rfl
theorem en77 : Enters Tryz.prog 77 := enters_of Tryz.func77 (by kernel_rfl) rfl
theorem en78 : Enters Tryz.prog 78 := enters_of Tryz.func78 (by kernel_rfl) rfl
theorem en79 : Enters Tryz.prog 79 := enters_of Tryz.func79 (by kernel_rfl) rfl
theorem en80 : Enters Tryz.prog 80 := enters_of Tryz.func80 (by kernel_rfl) rfl
theorem en81 : Enters Tryz.prog 81 := enters_of Tryz.func81 (by kernel_rfl) rfl
theorem en82 : Enters Tryz.prog 82 := enters_of Tryz.func82 (by kernel_rfl) rfl
theorem en83 : Enters Tryz.prog 83 := enters_of Tryz.func83 (by kernel_rfl) rfl
theorem en84 : Enters Tryz.prog 84 := enters_of Tryz.func84 (by kernel_rfl) rfl
theorem en85 : Enters Tryz.prog 85 := enters_of Tryz.func85 (by kernel_rfl) rfl
theorem en86 : Enters Tryz.prog 86 := enters_of Tryz.func86 (by kernel_rfl) rfl
theorem en87 : Enters Tryz.prog 87 := enters_of Tryz.func87 (by kernel_rfl) rfl
theorem en88 : Enters Tryz.prog 88 := enters_of Tryz.func88 (by kernel_rfl) rfl
theorem en89 : Enters Tryz.prog 89 := enters_of Tryz.func89 (by kernel_rfl) rfl
theorem en90 : Enters Tryz.prog 90 := enters_of Tryz.func90 (by kernel_rfl) rfl
theorem en92 : Enters Tryz.prog 92 := enters_of Tryz.func92 (by kernel_rfl) rfl
theorem en93 : Enters Tryz.prog 93 := enters_of Tryz.func93 (by kernel_rfl) rfl
theorem en94 : Enters Tryz.prog 94 := enters_of Tryz.func94 (by kernel_rfl) rfl
theorem en95 : Enters Tryz.prog 95 := enters_of Tryz.func95 (by kernel_rfl) rfl
theorem en96 : Enters Tryz.prog 96 := enters_of Tryz.func96 (by kernel_rfl) rfl
theorem en97 : Enters Tryz.prog 97 := enters_of Tryz.func97 (by kernel_rfl) rfl
theorem en98 : Enters Tryz.prog 98 := enters_of Tryz.func98 (by kernel_rfl) rfl
theorem en99 : Enters Tryz.prog 99 := enters_of Tryz.func99 (by kernel_rfl) rfl
theorem en111 : Enters Tryz.prog 111 := enters_of Tryz.func111 (by kernel_rfl) rfl
theorem en112 : Enters Tryz.prog 112 := enters_of Tryz.func112 (by kernel_rfl) rfl
theorem en113 : Enters Tryz.prog 113 := enters_of Tryz.func113 (by kernel_rfl) rfl
theorem en114 : Enters Tryz.prog 114 := enters_of Tryz.func114 (by kernel_rfl) rfl
theorem en117 : Enters Tryz.prog 117 := enters_of Tryz.func117 (by kernel_rfl) rfl
theorem en118 : Enters Tryz.prog 118 := enters_of Tryz.func118 (by kernel_rfl) rfl
theorem en132 : Enters Tryz.prog 132 := enters_of Tryz.func132 (by kernel_rfl) rfl
theorem ar91 : ArP Tryz.prog 91 3 8 Int := ⟨Tryz.underlying91, ty3, rfl⟩
theorem ar93 : ArP Tryz.prog 93 91 8 (Vector Int 8) := ⟨Tryz.underlying93, ty91, rfl⟩
theorem bd23_ {Γ : List (Nat × Pr)} {ty : TypeId}   : StepP Tryz.prog (.build 23 #[]) ty Γ (isV ((0, 0, 0, 0, 0, 0) : S_api_Turn)) :=
  step_pure fun c w a hc hm => by
    refine ⟨.agg #[.int .i64 0, .int .i64 0, .int .i64 0, .int .i64 0, .int .i64 0, .int .i64 0], ?_, [.int .i64 0, .int .i64 0, .int .i64 0, .int .i64 0, .int .i64 0, .int .i64 0], rfl, ⟨[.int .i64 0], [.int .i64 0, .int .i64 0, .int .i64 0, .int .i64 0, .int .i64 0], rfl, rfl, ⟨[.int .i64 0], [.int .i64 0, .int .i64 0, .int .i64 0, .int .i64 0], rfl, rfl, ⟨[.int .i64 0], [.int .i64 0, .int .i64 0, .int .i64 0], rfl, rfl, ⟨[.int .i64 0], [.int .i64 0, .int .i64 0], rfl, rfl, ⟨[.int .i64 0], [.int .i64 0], rfl, rfl, rfl⟩⟩⟩⟩⟩⟩
    have zr : (zeroValue 23).run Tryz.prog w = .ok (.agg #[.int .i64 0, .int .i64 0, .int .i64 0, .int .i64 0, .int .i64 0, .int .i64 0]) w := by kernel_rfl
    have si3 : (sizeOf 3).run Tryz.prog w = .ok 1 w := by kernel_rfl
    have zq : (Value.agg #[.int .i64 0, .int .i64 0, .int .i64 0, .int .i64 0, .int .i64 0, .int .i64 0]).cells = #[.int .i64 0, .int .i64 0, .int .i64 0, .int .i64 0, .int .i64 0, .int .i64 0] := rfl
    simp [execOp, plain, Instr.build, zr, run_underlying Tryz.underlying23, zq, Instr.fill, si3]
theorem bd23_012345 {Γ : List (Nat × Pr)} {ty : TypeId} {x0 : Int} {o0 : Operand} {x1 : Int} {o1 : Operand} {x2 : Int} {o2 : Operand} {x3 : Int} {o3 : Operand} {x4 : Int} {o4 : Operand} {x5 : Int} {o5 : Operand} (h0 : Od Γ o0 (isV x0)) (h1 : Od Γ o1 (isV x1)) (h2 : Od Γ o2 (isV x2)) (h3 : Od Γ o3 (isV x3)) (h4 : Od Γ o4 (isV x4)) (h5 : Od Γ o5 (isV x5)) : StepP Tryz.prog (.build 23 #[(0, o0), (1, o1), (2, o2), (3, o3), (4, o4), (5, o5)]) ty Γ (isV ((x0, x1, x2, x3, x4, x5) : S_api_Turn)) :=
  step_pure fun c w a hc hm => by
    have g0 := h0.get hm (by simp [Op.operands])
    have c0 := cells_one (α := Int) rfl g0
    have g1 := h1.get hm (by simp [Op.operands])
    have c1 := cells_one (α := Int) rfl g1
    have g2 := h2.get hm (by simp [Op.operands])
    have c2 := cells_one (α := Int) rfl g2
    have g3 := h3.get hm (by simp [Op.operands])
    have c3 := cells_one (α := Int) rfl g3
    have g4 := h4.get hm (by simp [Op.operands])
    have c4 := cells_one (α := Int) rfl g4
    have g5 := h5.get hm (by simp [Op.operands])
    have c5 := cells_one (α := Int) rfl g5
    refine ⟨.agg #[a.eval o0, a.eval o1, a.eval o2, a.eval o3, a.eval o4, a.eval o5], ?_, [a.eval o0, a.eval o1, a.eval o2, a.eval o3, a.eval o4, a.eval o5], rfl, ⟨[a.eval o0], [a.eval o1, a.eval o2, a.eval o3, a.eval o4, a.eval o5], rfl, g0, ⟨[a.eval o1], [a.eval o2, a.eval o3, a.eval o4, a.eval o5], rfl, g1, ⟨[a.eval o2], [a.eval o3, a.eval o4, a.eval o5], rfl, g2, ⟨[a.eval o3], [a.eval o4, a.eval o5], rfl, g3, ⟨[a.eval o4], [a.eval o5], rfl, g4, g5⟩⟩⟩⟩⟩⟩
    have zr : (zeroValue 23).run Tryz.prog w = .ok (.agg #[.int .i64 0, .int .i64 0, .int .i64 0, .int .i64 0, .int .i64 0, .int .i64 0]) w := by kernel_rfl
    have si3 : (sizeOf 3).run Tryz.prog w = .ok 1 w := by kernel_rfl
    have zq : (Value.agg #[.int .i64 0, .int .i64 0, .int .i64 0, .int .i64 0, .int .i64 0, .int .i64 0]).cells = #[.int .i64 0, .int .i64 0, .int .i64 0, .int .i64 0, .int .i64 0, .int .i64 0] := rfl
    simp [execOp, plain, Instr.build, zr, run_underlying Tryz.underlying23, zq, Instr.fill, si3, c0, c1, c2, c3, c4, c5]
theorem bd23_12345 {Γ : List (Nat × Pr)} {ty : TypeId} {x1 : Int} {o1 : Operand} {x2 : Int} {o2 : Operand} {x3 : Int} {o3 : Operand} {x4 : Int} {o4 : Operand} {x5 : Int} {o5 : Operand} (h1 : Od Γ o1 (isV x1)) (h2 : Od Γ o2 (isV x2)) (h3 : Od Γ o3 (isV x3)) (h4 : Od Γ o4 (isV x4)) (h5 : Od Γ o5 (isV x5)) : StepP Tryz.prog (.build 23 #[(1, o1), (2, o2), (3, o3), (4, o4), (5, o5)]) ty Γ (isV ((0, x1, x2, x3, x4, x5) : S_api_Turn)) :=
  step_pure fun c w a hc hm => by
    have g1 := h1.get hm (by simp [Op.operands])
    have c1 := cells_one (α := Int) rfl g1
    have g2 := h2.get hm (by simp [Op.operands])
    have c2 := cells_one (α := Int) rfl g2
    have g3 := h3.get hm (by simp [Op.operands])
    have c3 := cells_one (α := Int) rfl g3
    have g4 := h4.get hm (by simp [Op.operands])
    have c4 := cells_one (α := Int) rfl g4
    have g5 := h5.get hm (by simp [Op.operands])
    have c5 := cells_one (α := Int) rfl g5
    refine ⟨.agg #[.int .i64 0, a.eval o1, a.eval o2, a.eval o3, a.eval o4, a.eval o5], ?_, [.int .i64 0, a.eval o1, a.eval o2, a.eval o3, a.eval o4, a.eval o5], rfl, ⟨[.int .i64 0], [a.eval o1, a.eval o2, a.eval o3, a.eval o4, a.eval o5], rfl, rfl, ⟨[a.eval o1], [a.eval o2, a.eval o3, a.eval o4, a.eval o5], rfl, g1, ⟨[a.eval o2], [a.eval o3, a.eval o4, a.eval o5], rfl, g2, ⟨[a.eval o3], [a.eval o4, a.eval o5], rfl, g3, ⟨[a.eval o4], [a.eval o5], rfl, g4, g5⟩⟩⟩⟩⟩⟩
    have zr : (zeroValue 23).run Tryz.prog w = .ok (.agg #[.int .i64 0, .int .i64 0, .int .i64 0, .int .i64 0, .int .i64 0, .int .i64 0]) w := by kernel_rfl
    have si3 : (sizeOf 3).run Tryz.prog w = .ok 1 w := by kernel_rfl
    have zq : (Value.agg #[.int .i64 0, .int .i64 0, .int .i64 0, .int .i64 0, .int .i64 0, .int .i64 0]).cells = #[.int .i64 0, .int .i64 0, .int .i64 0, .int .i64 0, .int .i64 0, .int .i64 0] := rfl
    simp [execOp, plain, Instr.build, zr, run_underlying Tryz.underlying23, zq, Instr.fill, si3, c1, c2, c3, c4, c5]
theorem bd23_1245 {Γ : List (Nat × Pr)} {ty : TypeId} {x1 : Int} {o1 : Operand} {x2 : Int} {o2 : Operand} {x4 : Int} {o4 : Operand} {x5 : Int} {o5 : Operand} (h1 : Od Γ o1 (isV x1)) (h2 : Od Γ o2 (isV x2)) (h4 : Od Γ o4 (isV x4)) (h5 : Od Γ o5 (isV x5)) : StepP Tryz.prog (.build 23 #[(1, o1), (2, o2), (4, o4), (5, o5)]) ty Γ (isV ((0, x1, x2, 0, x4, x5) : S_api_Turn)) :=
  step_pure fun c w a hc hm => by
    have g1 := h1.get hm (by simp [Op.operands])
    have c1 := cells_one (α := Int) rfl g1
    have g2 := h2.get hm (by simp [Op.operands])
    have c2 := cells_one (α := Int) rfl g2
    have g4 := h4.get hm (by simp [Op.operands])
    have c4 := cells_one (α := Int) rfl g4
    have g5 := h5.get hm (by simp [Op.operands])
    have c5 := cells_one (α := Int) rfl g5
    refine ⟨.agg #[.int .i64 0, a.eval o1, a.eval o2, .int .i64 0, a.eval o4, a.eval o5], ?_, [.int .i64 0, a.eval o1, a.eval o2, .int .i64 0, a.eval o4, a.eval o5], rfl, ⟨[.int .i64 0], [a.eval o1, a.eval o2, .int .i64 0, a.eval o4, a.eval o5], rfl, rfl, ⟨[a.eval o1], [a.eval o2, .int .i64 0, a.eval o4, a.eval o5], rfl, g1, ⟨[a.eval o2], [.int .i64 0, a.eval o4, a.eval o5], rfl, g2, ⟨[.int .i64 0], [a.eval o4, a.eval o5], rfl, rfl, ⟨[a.eval o4], [a.eval o5], rfl, g4, g5⟩⟩⟩⟩⟩⟩
    have zr : (zeroValue 23).run Tryz.prog w = .ok (.agg #[.int .i64 0, .int .i64 0, .int .i64 0, .int .i64 0, .int .i64 0, .int .i64 0]) w := by kernel_rfl
    have si3 : (sizeOf 3).run Tryz.prog w = .ok 1 w := by kernel_rfl
    have zq : (Value.agg #[.int .i64 0, .int .i64 0, .int .i64 0, .int .i64 0, .int .i64 0, .int .i64 0]).cells = #[.int .i64 0, .int .i64 0, .int .i64 0, .int .i64 0, .int .i64 0, .int .i64 0] := rfl
    simp [execOp, plain, Instr.build, zr, run_underlying Tryz.underlying23, zq, Instr.fill, si3, c1, c2, c4, c5]
theorem bd23_2345 {Γ : List (Nat × Pr)} {ty : TypeId} {x2 : Int} {o2 : Operand} {x3 : Int} {o3 : Operand} {x4 : Int} {o4 : Operand} {x5 : Int} {o5 : Operand} (h2 : Od Γ o2 (isV x2)) (h3 : Od Γ o3 (isV x3)) (h4 : Od Γ o4 (isV x4)) (h5 : Od Γ o5 (isV x5)) : StepP Tryz.prog (.build 23 #[(2, o2), (3, o3), (4, o4), (5, o5)]) ty Γ (isV ((0, 0, x2, x3, x4, x5) : S_api_Turn)) :=
  step_pure fun c w a hc hm => by
    have g2 := h2.get hm (by simp [Op.operands])
    have c2 := cells_one (α := Int) rfl g2
    have g3 := h3.get hm (by simp [Op.operands])
    have c3 := cells_one (α := Int) rfl g3
    have g4 := h4.get hm (by simp [Op.operands])
    have c4 := cells_one (α := Int) rfl g4
    have g5 := h5.get hm (by simp [Op.operands])
    have c5 := cells_one (α := Int) rfl g5
    refine ⟨.agg #[.int .i64 0, .int .i64 0, a.eval o2, a.eval o3, a.eval o4, a.eval o5], ?_, [.int .i64 0, .int .i64 0, a.eval o2, a.eval o3, a.eval o4, a.eval o5], rfl, ⟨[.int .i64 0], [.int .i64 0, a.eval o2, a.eval o3, a.eval o4, a.eval o5], rfl, rfl, ⟨[.int .i64 0], [a.eval o2, a.eval o3, a.eval o4, a.eval o5], rfl, rfl, ⟨[a.eval o2], [a.eval o3, a.eval o4, a.eval o5], rfl, g2, ⟨[a.eval o3], [a.eval o4, a.eval o5], rfl, g3, ⟨[a.eval o4], [a.eval o5], rfl, g4, g5⟩⟩⟩⟩⟩⟩
    have zr : (zeroValue 23).run Tryz.prog w = .ok (.agg #[.int .i64 0, .int .i64 0, .int .i64 0, .int .i64 0, .int .i64 0, .int .i64 0]) w := by kernel_rfl
    have si3 : (sizeOf 3).run Tryz.prog w = .ok 1 w := by kernel_rfl
    have zq : (Value.agg #[.int .i64 0, .int .i64 0, .int .i64 0, .int .i64 0, .int .i64 0, .int .i64 0]).cells = #[.int .i64 0, .int .i64 0, .int .i64 0, .int .i64 0, .int .i64 0, .int .i64 0] := rfl
    simp [execOp, plain, Instr.build, zr, run_underlying Tryz.underlying23, zq, Instr.fill, si3, c2, c3, c4, c5]
theorem bd23_245 {Γ : List (Nat × Pr)} {ty : TypeId} {x2 : Int} {o2 : Operand} {x4 : Int} {o4 : Operand} {x5 : Int} {o5 : Operand} (h2 : Od Γ o2 (isV x2)) (h4 : Od Γ o4 (isV x4)) (h5 : Od Γ o5 (isV x5)) : StepP Tryz.prog (.build 23 #[(2, o2), (4, o4), (5, o5)]) ty Γ (isV ((0, 0, x2, 0, x4, x5) : S_api_Turn)) :=
  step_pure fun c w a hc hm => by
    have g2 := h2.get hm (by simp [Op.operands])
    have c2 := cells_one (α := Int) rfl g2
    have g4 := h4.get hm (by simp [Op.operands])
    have c4 := cells_one (α := Int) rfl g4
    have g5 := h5.get hm (by simp [Op.operands])
    have c5 := cells_one (α := Int) rfl g5
    refine ⟨.agg #[.int .i64 0, .int .i64 0, a.eval o2, .int .i64 0, a.eval o4, a.eval o5], ?_, [.int .i64 0, .int .i64 0, a.eval o2, .int .i64 0, a.eval o4, a.eval o5], rfl, ⟨[.int .i64 0], [.int .i64 0, a.eval o2, .int .i64 0, a.eval o4, a.eval o5], rfl, rfl, ⟨[.int .i64 0], [a.eval o2, .int .i64 0, a.eval o4, a.eval o5], rfl, rfl, ⟨[a.eval o2], [.int .i64 0, a.eval o4, a.eval o5], rfl, g2, ⟨[.int .i64 0], [a.eval o4, a.eval o5], rfl, rfl, ⟨[a.eval o4], [a.eval o5], rfl, g4, g5⟩⟩⟩⟩⟩⟩
    have zr : (zeroValue 23).run Tryz.prog w = .ok (.agg #[.int .i64 0, .int .i64 0, .int .i64 0, .int .i64 0, .int .i64 0, .int .i64 0]) w := by kernel_rfl
    have si3 : (sizeOf 3).run Tryz.prog w = .ok 1 w := by kernel_rfl
    have zq : (Value.agg #[.int .i64 0, .int .i64 0, .int .i64 0, .int .i64 0, .int .i64 0, .int .i64 0]).cells = #[.int .i64 0, .int .i64 0, .int .i64 0, .int .i64 0, .int .i64 0, .int .i64 0] := rfl
    simp [execOp, plain, Instr.build, zr, run_underlying Tryz.underlying23, zq, Instr.fill, si3, c2, c4, c5]
theorem bd34_ {Γ : List (Nat × Pr)} {ty : TypeId}   : StepP Tryz.prog (.build 34 #[]) ty Γ (isV ((0, 0, 0, [], []) : S_api_Roster)) :=
  step_pure fun c w a hc hm => by
    refine ⟨.agg #[.int .i64 0, .int .i64 0, .int .i64 0, .slice none 0 0, .slice none 0 0], ?_, [.int .i64 0, .int .i64 0, .int .i64 0, .slice none 0 0, .slice none 0 0], rfl, ⟨[.int .i64 0], [.int .i64 0, .int .i64 0, .slice none 0 0, .slice none 0 0], rfl, rfl, ⟨[.int .i64 0], [.int .i64 0, .slice none 0 0, .slice none 0 0], rfl, rfl, ⟨[.int .i64 0], [.slice none 0 0, .slice none 0 0], rfl, rfl, ⟨[.slice none 0 0], [.slice none 0 0], rfl, (.inl ⟨none, 0, rfl, Nat.zero_le _, rfl⟩), (.inl ⟨none, 0, rfl, Nat.zero_le _, rfl⟩)⟩⟩⟩⟩⟩
    have zr : (zeroValue 34).run Tryz.prog w = .ok (.agg #[.int .i64 0, .int .i64 0, .int .i64 0, .slice none 0 0, .slice none 0 0]) w := by kernel_rfl
    have si3 : (sizeOf 3).run Tryz.prog w = .ok 1 w := by kernel_rfl
    have si31 : (sizeOf 31).run Tryz.prog w = .ok 1 w := by kernel_rfl
    have si32 : (sizeOf 32).run Tryz.prog w = .ok 1 w := by kernel_rfl
    have zq : (Value.agg #[.int .i64 0, .int .i64 0, .int .i64 0, .slice none 0 0, .slice none 0 0]).cells = #[.int .i64 0, .int .i64 0, .int .i64 0, .slice none 0 0, .slice none 0 0] := rfl
    simp [execOp, plain, Instr.build, zr, run_underlying Tryz.underlying34, zq, Instr.fill, si3, si31, si32]
theorem bd34_01234 {Γ : List (Nat × Pr)} {ty : TypeId} {x0 : Int} {o0 : Operand} {x1 : Int} {o1 : Operand} {x2 : Int} {o2 : Operand} {x3 : List (List Int)} {o3 : Operand} {x4 : List S_api_Turn} {o4 : Operand} (h0 : Od Γ o0 (isV x0)) (h1 : Od Γ o1 (isV x1)) (h2 : Od Γ o2 (isV x2)) (h3 : Od Γ o3 (isV x3)) (h4 : Od Γ o4 (isV x4)) : StepP Tryz.prog (.build 34 #[(0, o0), (1, o1), (2, o2), (3, o3), (4, o4)]) ty Γ (isV ((x0, x1, x2, x3, x4) : S_api_Roster)) :=
  step_pure fun c w a hc hm => by
    have g0 := h0.get hm (by simp [Op.operands])
    have c0 := cells_one (α := Int) rfl g0
    have g1 := h1.get hm (by simp [Op.operands])
    have c1 := cells_one (α := Int) rfl g1
    have g2 := h2.get hm (by simp [Op.operands])
    have c2 := cells_one (α := Int) rfl g2
    have g3 := h3.get hm (by simp [Op.operands])
    have c3 := cells_one (α := List (List Int)) rfl g3
    have g4 := h4.get hm (by simp [Op.operands])
    have c4 := cells_one (α := List S_api_Turn) rfl g4
    refine ⟨.agg #[a.eval o0, a.eval o1, a.eval o2, a.eval o3, a.eval o4], ?_, [a.eval o0, a.eval o1, a.eval o2, a.eval o3, a.eval o4], rfl, ⟨[a.eval o0], [a.eval o1, a.eval o2, a.eval o3, a.eval o4], rfl, g0, ⟨[a.eval o1], [a.eval o2, a.eval o3, a.eval o4], rfl, g1, ⟨[a.eval o2], [a.eval o3, a.eval o4], rfl, g2, ⟨[a.eval o3], [a.eval o4], rfl, g3, g4⟩⟩⟩⟩⟩
    have zr : (zeroValue 34).run Tryz.prog w = .ok (.agg #[.int .i64 0, .int .i64 0, .int .i64 0, .slice none 0 0, .slice none 0 0]) w := by kernel_rfl
    have si3 : (sizeOf 3).run Tryz.prog w = .ok 1 w := by kernel_rfl
    have si31 : (sizeOf 31).run Tryz.prog w = .ok 1 w := by kernel_rfl
    have si32 : (sizeOf 32).run Tryz.prog w = .ok 1 w := by kernel_rfl
    have zq : (Value.agg #[.int .i64 0, .int .i64 0, .int .i64 0, .slice none 0 0, .slice none 0 0]).cells = #[.int .i64 0, .int .i64 0, .int .i64 0, .slice none 0 0, .slice none 0 0] := rfl
    simp [execOp, plain, Instr.build, zr, run_underlying Tryz.underlying34, zq, Instr.fill, si3, si31, si32, c0, c1, c2, c3, c4]
theorem bd66_01 {Γ : List (Nat × Pr)} {ty : TypeId} {x0 : Int} {o0 : Operand} {x1 : Bool} {o1 : Operand} (h0 : Od Γ o0 (isV x0)) (h1 : Od Γ o1 (isV x1)) : StepP Tryz.prog (.build 66 #[(0, o0), (1, o1)]) ty Γ (isV ((x0, x1) : S_watch_lag)) :=
  step_pure fun c w a hc hm => by
    have g0 := h0.get hm (by simp [Op.operands])
    have c0 := cells_one (α := Int) rfl g0
    have g1 := h1.get hm (by simp [Op.operands])
    have c1 := cells_one (α := Bool) rfl g1
    refine ⟨.agg #[a.eval o0, a.eval o1], ?_, [a.eval o0, a.eval o1], rfl, ⟨[a.eval o0], [a.eval o1], rfl, g0, g1⟩⟩
    have zr : (zeroValue 66).run Tryz.prog w = .ok (.agg #[.int .i64 0, .bool false]) w := by kernel_rfl
    have si3 : (sizeOf 3).run Tryz.prog w = .ok 1 w := by kernel_rfl
    have si4 : (sizeOf 4).run Tryz.prog w = .ok 1 w := by kernel_rfl
    have zq : (Value.agg #[.int .i64 0, .bool false]).cells = #[.int .i64 0, .bool false] := rfl
    simp [execOp, plain, Instr.build, zr, run_underlying Tryz.underlying66, zq, Instr.fill, si3, si4, c0, c1]
theorem mp131 : MpP Tryz.prog 131 := MpP.mk' Tryz.underlying131 Tryz.underlying3 (by kernel_rfl)
theorem tyR100_w : TyP Tryz.prog 100 Raw := TyP.mk' Tryz.underlying100 rfl (by kernel_rfl)
theorem ziR100_w : ZeroIs Tryz.prog 100 (Raw.mk (.nilFunc)) := ZeroIs.mk' (cs := [.nilFunc]) (by kernel_rfl) (fun c => ⟨rfl, rfl⟩)
theorem tyR115_w : TyP Tryz.prog 115 Raw := TyP.mk' Tryz.underlying115 rfl (by kernel_rfl)
theorem ziR115_w : ZeroIs Tryz.prog 115 (Raw.mk (.slice none 0 0)) := ZeroIs.mk' (cs := [.slice none 0 0]) (by kernel_rfl) (fun c => ⟨rfl, rfl⟩)
theorem tyR31_w : TyP Tryz.prog 31 Raw := TyP.mk' Tryz.underlying31 rfl (by kernel_rfl)
theorem ziR31_w : ZeroIs Tryz.prog 31 (Raw.mk (.slice none 0 0)) := ZeroIs.mk' (cs := [.slice none 0 0]) (by kernel_rfl) (fun c => ⟨rfl, rfl⟩)
theorem tyR39_w : TyP Tryz.prog 39 Raw := TyP.mk' Tryz.underlying39 rfl (by kernel_rfl)
theorem tyR80_01 : TyP Tryz.prog 80 (Raw × Raw) := TyP.mk' Tryz.underlying80 rfl (by kernel_rfl)
theorem fdR80_01_0 : FieldP Tryz.prog 80 0 (fun x : Raw × Raw => x.1) := FieldP.mk' Tryz.underlying80 rfl (by kernel_rfl) rfl fun c vs x h => by have := rep_fst h; exact this
theorem fdR80_01_1 : FieldP Tryz.prog 80 1 (fun x : Raw × Raw => x.2) := FieldP.mk' Tryz.underlying80 rfl (by kernel_rfl) rfl fun c vs x h => by have := rep_all (rep_snd h); exact this
theorem tyR80_0 : TyP Tryz.prog 80 (Raw × (List Int)) := TyP.mk' Tryz.underlying80 rfl (by kernel_rfl)
theorem fdR80_0_0 : FieldP Tryz.prog 80 0 (fun x : Raw × (List Int) => x.1) := FieldP.mk' Tryz.underlying80 rfl (by kernel_rfl) rfl fun c vs x h => by have := rep_fst h; exact this
theorem tyR80_1 : TyP Tryz.prog 80 ((List Int) × Raw) := TyP.mk' Tryz.underlying80 rfl (by kernel_rfl)
theorem fdR80_1_1 : FieldP Tryz.prog 80 1 (fun x : (List Int) × Raw => x.2) := FieldP.mk' Tryz.underlying80 rfl (by kernel_rfl) rfl fun c vs x h => by have := rep_all (rep_snd h); exact this
theorem bdR80_01_01 {Γ : List (Nat × Pr)} {ty : TypeId} {x0 : Raw} {o0 : Operand} {x1 : Raw} {o1 : Operand} (h0 : Od Γ o0 (isV x0)) (h1 : Od Γ o1 (isV x1)) : StepP Tryz.prog (.build 80 #[(0, o0), (1, o1)]) ty Γ (isV ((x0, x1) : Raw × Raw)) :=
  step_pure fun c w a hc hm => by
    have g0 := h0.get hm (by simp [Op.operands])
    have c0 := cells_one (α := Raw) rfl g0
    have g1 := h1.get hm (by simp [Op.operands])
    have c1 := cells_one (α := Raw) rfl g1
    refine ⟨.agg #[a.eval o0, a.eval o1], ?_, [a.eval o0, a.eval o1], rfl, ⟨[a.eval o0], [a.eval o1], rfl, g0, g1⟩⟩
    have zr : (zeroValue 80).run Tryz.prog w = .ok (.agg #[.slice none 0 0, .slice none 0 0]) w := by kernel_rfl
    have si39 : (sizeOf 39).run Tryz.prog w = .ok 1 w := by kernel_rfl
    have zq : (Value.agg #[.slice none 0 0, .slice none 0 0]).cells = #[.slice none 0 0, .slice none 0 0] := rfl
    simp [execOp, plain, Instr.build, zr, run_underlying Tryz.underlying80, zq, Instr.fill, si39, c0, c1]
theorem bdR80_01_0 {Γ : List (Nat × Pr)} {ty : TypeId} {x0 : Raw} {o0 : Operand} {x1 : List Int} {o1 : Operand} (h0 : Od Γ o0 (isV x0)) (h1 : Od Γ o1 (isV x1)) : StepP Tryz.prog (.build 80 #[(0, o0), (1, o1)]) ty Γ (isV ((x0, x1) : Raw × (List Int))) :=
  step_pure fun c w a hc hm => by
    have g0 := h0.get hm (by simp [Op.operands])
    have c0 := cells_one (α := Raw) rfl g0
    have g1 := h1.get hm (by simp [Op.operands])
    have c1 := cells_one (α := List Int) rfl g1
    refine ⟨.agg #[a.eval o0, a.eval o1], ?_, [a.eval o0, a.eval o1], rfl, ⟨[a.eval o0], [a.eval o1], rfl, g0, g1⟩⟩
    have zr : (zeroValue 80).run Tryz.prog w = .ok (.agg #[.slice none 0 0, .slice none 0 0]) w := by kernel_rfl
    have si39 : (sizeOf 39).run Tryz.prog w = .ok 1 w := by kernel_rfl
    have zq : (Value.agg #[.slice none 0 0, .slice none 0 0]).cells = #[.slice none 0 0, .slice none 0 0] := rfl
    simp [execOp, plain, Instr.build, zr, run_underlying Tryz.underlying80, zq, Instr.fill, si39, c0, c1]
theorem bdR80_01_1 {Γ : List (Nat × Pr)} {ty : TypeId} {x0 : List Int} {o0 : Operand} {x1 : Raw} {o1 : Operand} (h0 : Od Γ o0 (isV x0)) (h1 : Od Γ o1 (isV x1)) : StepP Tryz.prog (.build 80 #[(0, o0), (1, o1)]) ty Γ (isV ((x0, x1) : (List Int) × Raw)) :=
  step_pure fun c w a hc hm => by
    have g0 := h0.get hm (by simp [Op.operands])
    have c0 := cells_one (α := List Int) rfl g0
    have g1 := h1.get hm (by simp [Op.operands])
    have c1 := cells_one (α := Raw) rfl g1
    refine ⟨.agg #[a.eval o0, a.eval o1], ?_, [a.eval o0, a.eval o1], rfl, ⟨[a.eval o0], [a.eval o1], rfl, g0, g1⟩⟩
    have zr : (zeroValue 80).run Tryz.prog w = .ok (.agg #[.slice none 0 0, .slice none 0 0]) w := by kernel_rfl
    have si39 : (sizeOf 39).run Tryz.prog w = .ok 1 w := by kernel_rfl
    have zq : (Value.agg #[.slice none 0 0, .slice none 0 0]).cells = #[.slice none 0 0, .slice none 0 0] := rfl
    simp [execOp, plain, Instr.build, zr, run_underlying Tryz.underlying80, zq, Instr.fill, si39, c0, c1]
theorem zeR131 : ZeroP Tryz.prog 131 Raw := ZeroP.mk' (by kernel_rfl)
theorem tyM131 : TyP Tryz.prog 131 Raw := TyP.mk' Tryz.underlying131 rfl (by kernel_rfl)
theorem ze100039 : ZeroP Tryz.prog 39 (NL Int) := ZeroP.mk' (by kernel_rfl)
theorem ze23 : ZeroP Tryz.prog 23 S_api_Turn := ZeroP.mk' (by kernel_rfl)
theorem ze3 : ZeroP Tryz.prog 3 Int := ZeroP.mk' (by kernel_rfl)
theorem ze34 : ZeroP Tryz.prog 34 S_api_Roster := ZeroP.mk' (by kernel_rfl)
theorem ze39 : ZeroP Tryz.prog 39 (List Int) := ZeroP.mk' (by kernel_rfl)
theorem ze66 : ZeroP Tryz.prog 66 S_watch_lag := ZeroP.mk' (by kernel_rfl)
theorem ze74 : ZeroP Tryz.prog 74 ((List Int) → (List Int) → Option Int) := ZeroP.mk' (by kernel_rfl)
theorem ze87 : ZeroP Tryz.prog 87 (Int → Option Bool) := ZeroP.mk' (by kernel_rfl)
theorem ze9 : ZeroP Tryz.prog 9 ByteArray := ZeroP.mk' (by kernel_rfl)
theorem ze93 : ZeroP Tryz.prog 93 (Vector (Vector Int 8) 8) := ZeroP.mk' (by kernel_rfl)
theorem zi100039 : ZeroIs Tryz.prog 39 (⟨[]⟩ : NL Int) := ZeroIs.mk' (cs := [.slice none 0 0]) (by kernel_rfl) (fun c => ⟨.inl ⟨none, 0, rfl, Nat.zero_le _, rfl⟩, fun _ => rfl⟩)
theorem zi23 : ZeroIs Tryz.prog 23 ((0, 0, 0, 0, 0, 0) : S_api_Turn) := ZeroIs.mk' (cs := [.int .i64 0, .int .i64 0, .int .i64 0, .int .i64 0, .int .i64 0, .int .i64 0]) (by kernel_rfl) (fun c => ⟨[.int .i64 0], [.int .i64 0, .int .i64 0, .int .i64 0, .int .i64 0, .int .i64 0], rfl, rfl, ⟨[.int .i64 0], [.int .i64 0, .int .i64 0, .int .i64 0, .int .i64 0], rfl, rfl, ⟨[.int .i64 0], [.int .i64 0, .int .i64 0, .int .i64 0], rfl, rfl, ⟨[.int .i64 0], [.int .i64 0, .int .i64 0], rfl, rfl, ⟨[.int .i64 0], [.int .i64 0], rfl, rfl, rfl⟩⟩⟩⟩⟩)
theorem zi3 : ZeroIs Tryz.prog 3 (0 : Int) := ZeroIs.mk' (cs := [.int .i64 0]) (by kernel_rfl) (fun c => rfl)
theorem zi34 : ZeroIs Tryz.prog 34 ((0, 0, 0, [], []) : S_api_Roster) := ZeroIs.mk' (cs := [.int .i64 0, .int .i64 0, .int .i64 0, .slice none 0 0, .slice none 0 0]) (by kernel_rfl) (fun c => ⟨[.int .i64 0], [.int .i64 0, .int .i64 0, .slice none 0 0, .slice none 0 0], rfl, rfl, ⟨[.int .i64 0], [.int .i64 0, .slice none 0 0, .slice none 0 0], rfl, rfl, ⟨[.int .i64 0], [.slice none 0 0, .slice none 0 0], rfl, rfl, ⟨[.slice none 0 0], [.slice none 0 0], rfl, (.inl ⟨none, 0, rfl, Nat.zero_le _, rfl⟩), (.inl ⟨none, 0, rfl, Nat.zero_le _, rfl⟩)⟩⟩⟩⟩)
theorem zi66 : ZeroIs Tryz.prog 66 ((0, false) : S_watch_lag) := ZeroIs.mk' (cs := [.int .i64 0, .bool false]) (by kernel_rfl) (fun c => ⟨[.int .i64 0], [.bool false], rfl, rfl, rfl⟩)
theorem zi80 : ZeroIs Tryz.prog 80 (([], []) : S_watch_bounds) := ZeroIs.mk' (cs := [.slice none 0 0, .slice none 0 0]) (by kernel_rfl) (fun c => ⟨[.slice none 0 0], [.slice none 0 0], rfl, (.inl ⟨none, 0, rfl, Nat.zero_le _, rfl⟩), (.inl ⟨none, 0, rfl, Nat.zero_le _, rfl⟩)⟩)
theorem zi93 : ZeroIs Tryz.prog 93 (Vector.replicate 8 (#v[0, 0, 0, 0, 0, 0, 0, 0] : Vector Int 8) : Vector (Vector Int 8) 8) := ZeroIs.mk' (cs := (List.replicate 8 [.int .i64 0, .int .i64 0, .int .i64 0, .int .i64 0, .int .i64 0, .int .i64 0, .int .i64 0, .int .i64 0]).flatten) (by kernel_rfl) (fun c => repV_replicate (x := (#v[0, 0, 0, 0, 0, 0, 0, 0] : Vector Int 8)) (show RepL c [.int .i64 0, .int .i64 0, .int .i64 0, .int .i64 0, .int .i64 0, .int .i64 0, .int .i64 0, .int .i64 0] ([0, 0, 0, 0, 0, 0, 0, 0] : List Int) from ⟨[.int .i64 0], [.int .i64 0, .int .i64 0, .int .i64 0, .int .i64 0, .int .i64 0, .int .i64 0, .int .i64 0], rfl, rfl, ⟨[.int .i64 0], [.int .i64 0, .int .i64 0, .int .i64 0, .int .i64 0, .int .i64 0, .int .i64 0], rfl, rfl, ⟨[.int .i64 0], [.int .i64 0, .int .i64 0, .int .i64 0, .int .i64 0, .int .i64 0], rfl, rfl, ⟨[.int .i64 0], [.int .i64 0, .int .i64 0, .int .i64 0, .int .i64 0], rfl, rfl, ⟨[.int .i64 0], [.int .i64 0, .int .i64 0, .int .i64 0], rfl, rfl, ⟨[.int .i64 0], [.int .i64 0, .int .i64 0], rfl, rfl, ⟨[.int .i64 0], [.int .i64 0], rfl, rfl, ⟨[.int .i64 0], [], rfl, rfl, rfl⟩⟩⟩⟩⟩⟩⟩⟩))
theorem eq23 : EqP Tryz.prog 2 23 S_api_Turn := EqP.struct rfl Tryz.underlying23 (by kernel_rfl) ⟨by decide, Int, inferInstance, inferInstance, fun x => x.1, (fun x y => ((x.2.1 == y.2.1) && ((x.2.2.1 == y.2.2.1) && ((x.2.2.2.1 == y.2.2.2.1) && ((x.2.2.2.2.1 == y.2.2.2.2.1) && (x.2.2.2.2.2 == y.2.2.2.2.2)))))), ty3, (EqP.int Tryz.underlying3), (fun c vs x h => by have := rep_fst h; exact this), ⟨by decide, Int, inferInstance, inferInstance, fun x => x.2.1, (fun x y => ((x.2.2.1 == y.2.2.1) && ((x.2.2.2.1 == y.2.2.2.1) && ((x.2.2.2.2.1 == y.2.2.2.2.1) && (x.2.2.2.2.2 == y.2.2.2.2.2))))), ty3, (EqP.int Tryz.underlying3), (fun c vs x h => by have := rep_fst (rep_snd h); exact this), ⟨by decide, Int, inferInstance, inferInstance, fun x => x.2.2.1, (fun x y => ((x.2.2.2.1 == y.2.2.2.1) && ((x.2.2.2.2.1 == y.2.2.2.2.1) && (x.2.2.2.2.2 == y.2.2.2.2.2)))), ty3, (EqP.int Tryz.underlying3), (fun c vs x h => by have := rep_fst (rep_snd (rep_snd h)); simp only [List.drop_drop] at this; exact this), ⟨by decide, Int, inferInstance, inferInstance, fun x => x.2.2.2.1, (fun x y => ((x.2.2.2.2.1 == y.2.2.2.2.1) && (x.2.2.2.2.2 == y.2.2.2.2.2))), ty3, (EqP.int Tryz.underlying3), (fun c vs x h => by have := rep_fst (rep_snd (rep_snd (rep_snd h))); simp only [List.drop_drop] at this; exact this), ⟨by decide, Int, inferInstance, inferInstance, fun x => x.2.2.2.2.1, (fun x y => (x.2.2.2.2.2 == y.2.2.2.2.2)), ty3, (EqP.int Tryz.underlying3), (fun c vs x h => by have := rep_fst (rep_snd (rep_snd (rep_snd (rep_snd h)))); simp only [List.drop_drop] at this; exact this), ⟨by decide, Int, inferInstance, inferInstance, fun x => x.2.2.2.2.2, (fun x y => true), ty3, (EqP.int Tryz.underlying3), (fun c vs x h => by have := rep_all (rep_snd (rep_snd (rep_snd (rep_snd (rep_snd h))))); simp only [List.drop_drop] at this; exact this), fun _ _ => rfl, fun x y => by first | rfl | simp⟩, fun x y => by first | rfl | simp⟩, fun x y => by first | rfl | simp⟩, fun x y => by first | rfl | simp⟩, fun x y => by first | rfl | simp⟩, fun x y => by first | rfl | simp⟩
theorem eg23 : Tryz.prog.eqGuardType Tryz.prog.depth 23 = false := by kernel_rfl
theorem eq91 : EqP Tryz.prog 2 91 (Vector Int 8) := EqP.array ar91 (EqP.int Tryz.underlying3)
theorem eq93 : EqP Tryz.prog 3 93 (Vector (Vector Int 8) 8) := EqP.array ar93 eq91
theorem eg93 : Tryz.prog.eqGuardType Tryz.prog.depth 93 = false := by kernel_rfl
end Go.Proofs.YtnnhmgcigoiceaaGreatDoor
