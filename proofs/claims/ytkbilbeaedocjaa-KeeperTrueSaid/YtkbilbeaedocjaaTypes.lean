/-
  What is proved: facts on the types of the program that the walks use.
-/
import Derived.Test.YtkbilbeaedocjaaChecked
import Derived.Test.YtkbilbeaedocjaaBaseI
import Derived.Test.YtkbilbeaedocjaaData
set_option maxRecDepth 100000
namespace Go.Proofs.Ytkbilbeaedocjaa
open Go Go.Proofs.Ytkbilbeaedocjaa.Wh

theorem mixed : Try.prog.follows .mixedOrders = true := Try.checked.mixed
instance enc55 : Enc ((Vector Int 2) → Option Bool) := Enc.single (fun c v f => (isFn Try.prog (X := Vector Int 2) (Y := Bool) (fun x => [isV x]) (fun y => isV y) (f)).p ⟨c, c⟩ v) (fun hc h => (isFn Try.prog (X := Vector Int 2) (Y := Bool) (fun x => [isV x]) (fun y => isV y) _).mono ⟨hc, hc⟩ h) (fun h => isFn_one h)
theorem od_fn55 {Γ : List (Nat × Pr)} {x : Operand} {f : ((Vector Int 2) → Option Bool)} (h : Od Γ x (isV f)) : Od Γ x (isFn Try.prog (X := Vector Int 2) (Y := Bool) (fun x => [isV x]) (fun y => isV y) (f)) := h
theorem mk_fn55 {Γ : List (Nat × Pr)} {ty : TypeId} {f : ((Vector Int 2) → Option Bool)} {g : FuncId} {xs : Array Operand} {κs : List Pr} (hC : OnlyC κs) (he : Enters Try.prog g) (hx : OdL Γ xs.toList κs) (h : ∀ (x : Vector Int 2) (y : Bool), (f : (Vector Int 2) → Option Bool) x = some y → CallOK Try.prog g ((fun x => [isV x] : (Vector Int 2) → List Pr) x ++ κs) ((fun y => isV y : Bool → Pr) y)) : StepP Try.prog (.makeFunc (.func g) #[] xs) ty Γ (isV f) :=
  sp_makeFunc (X := Vector Int 2) (Y := Bool) (A := fun x => [isV x]) (R := fun y => isV y) (f := f) hC he hx h
theorem of_fn55 {Γ : List (Nat × Pr)} {f : ((Vector Int 2) → Option Bool)} {g : FuncId} (he : Enters Try.prog g) (h : ∀ (x : Vector Int 2) (y : Bool), (f : (Vector Int 2) → Option Bool) x = some y → CallOK Try.prog g ((fun x => [isV x] : (Vector Int 2) → List Pr) x) ((fun y => isV y : Bool → Pr) y)) : Od Γ (.func g) (isV f) :=
  odf (X := Vector Int 2) (Y := Bool) (A := fun x => [isV x]) (R := fun y => isV y) (f := f) he h
instance enc63 : Enc ((List (Vector Int 2)) → Option Bool) := Enc.single (fun c v f => (isFn Try.prog (X := List (Vector Int 2)) (Y := Bool) (fun x => [isV x]) (fun y => isV y) (f)).p ⟨c, c⟩ v) (fun hc h => (isFn Try.prog (X := List (Vector Int 2)) (Y := Bool) (fun x => [isV x]) (fun y => isV y) _).mono ⟨hc, hc⟩ h) (fun h => isFn_one h)
theorem od_fn63 {Γ : List (Nat × Pr)} {x : Operand} {f : ((List (Vector Int 2)) → Option Bool)} (h : Od Γ x (isV f)) : Od Γ x (isFn Try.prog (X := List (Vector Int 2)) (Y := Bool) (fun x => [isV x]) (fun y => isV y) (f)) := h
theorem mk_fn63 {Γ : List (Nat × Pr)} {ty : TypeId} {f : ((List (Vector Int 2)) → Option Bool)} {g : FuncId} {xs : Array Operand} {κs : List Pr} (hC : OnlyC κs) (he : Enters Try.prog g) (hx : OdL Γ xs.toList κs) (h : ∀ (x : List (Vector Int 2)) (y : Bool), (f : (List (Vector Int 2)) → Option Bool) x = some y → CallOK Try.prog g ((fun x => [isV x] : (List (Vector Int 2)) → List Pr) x ++ κs) ((fun y => isV y : Bool → Pr) y)) : StepP Try.prog (.makeFunc (.func g) #[] xs) ty Γ (isV f) :=
  sp_makeFunc (X := List (Vector Int 2)) (Y := Bool) (A := fun x => [isV x]) (R := fun y => isV y) (f := f) hC he hx h
theorem of_fn63 {Γ : List (Nat × Pr)} {f : ((List (Vector Int 2)) → Option Bool)} {g : FuncId} (he : Enters Try.prog g) (h : ∀ (x : List (Vector Int 2)) (y : Bool), (f : (List (Vector Int 2)) → Option Bool) x = some y → CallOK Try.prog g ((fun x => [isV x] : (List (Vector Int 2)) → List Pr) x) ((fun y => isV y : Bool → Pr) y)) : Od Γ (.func g) (isV f) :=
  odf (X := List (Vector Int 2)) (Y := Bool) (A := fun x => [isV x]) (R := fun y => isV y) (f := f) he h
instance enc64 : Enc ((List (Vector Int 2)) → (List (Vector Int 2)) → Option Bool) := Enc.single (fun c v f => (isFn Try.prog (X := (List (Vector Int 2)) × (List (Vector Int 2))) (Y := Bool) (fun x => [isV x.1, isV x.2]) (fun y => isV y) (fun x => f x.1 x.2)).p ⟨c, c⟩ v) (fun hc h => (isFn Try.prog (X := (List (Vector Int 2)) × (List (Vector Int 2))) (Y := Bool) (fun x => [isV x.1, isV x.2]) (fun y => isV y) _).mono ⟨hc, hc⟩ h) (fun h => isFn_one h)
theorem od_fn64 {Γ : List (Nat × Pr)} {x : Operand} {f : ((List (Vector Int 2)) → (List (Vector Int 2)) → Option Bool)} (h : Od Γ x (isV f)) : Od Γ x (isFn Try.prog (X := (List (Vector Int 2)) × (List (Vector Int 2))) (Y := Bool) (fun x => [isV x.1, isV x.2]) (fun y => isV y) (fun x => f x.1 x.2)) := h
theorem mk_fn64 {Γ : List (Nat × Pr)} {ty : TypeId} {f : ((List (Vector Int 2)) → (List (Vector Int 2)) → Option Bool)} {g : FuncId} {xs : Array Operand} {κs : List Pr} (hC : OnlyC κs) (he : Enters Try.prog g) (hx : OdL Γ xs.toList κs) (h : ∀ (x : (List (Vector Int 2)) × (List (Vector Int 2))) (y : Bool), (fun x => f x.1 x.2 : ((List (Vector Int 2)) × (List (Vector Int 2))) → Option Bool) x = some y → CallOK Try.prog g ((fun x => [isV x.1, isV x.2] : ((List (Vector Int 2)) × (List (Vector Int 2))) → List Pr) x ++ κs) ((fun y => isV y : Bool → Pr) y)) : StepP Try.prog (.makeFunc (.func g) #[] xs) ty Γ (isV f) :=
  sp_makeFunc (X := (List (Vector Int 2)) × (List (Vector Int 2))) (Y := Bool) (A := fun x => [isV x.1, isV x.2]) (R := fun y => isV y) (f := fun x => f x.1 x.2) hC he hx h
theorem of_fn64 {Γ : List (Nat × Pr)} {f : ((List (Vector Int 2)) → (List (Vector Int 2)) → Option Bool)} {g : FuncId} (he : Enters Try.prog g) (h : ∀ (x : (List (Vector Int 2)) × (List (Vector Int 2))) (y : Bool), (fun x => f x.1 x.2 : ((List (Vector Int 2)) × (List (Vector Int 2))) → Option Bool) x = some y → CallOK Try.prog g ((fun x => [isV x.1, isV x.2] : ((List (Vector Int 2)) × (List (Vector Int 2))) → List Pr) x) ((fun y => isV y : Bool → Pr) y)) : Od Γ (.func g) (isV f) :=
  odf (X := (List (Vector Int 2)) × (List (Vector Int 2))) (Y := Bool) (A := fun x => [isV x.1, isV x.2]) (R := fun y => isV y) (f := fun x => f x.1 x.2) he h
instance enc91 : Enc (S_api_Offer → Option S_api_Span) := Enc.single (fun c v f => (isFn Try.prog (X := S_api_Offer) (Y := S_api_Span) (fun x => [isV x]) (fun y => isV y) (f)).p ⟨c, c⟩ v) (fun hc h => (isFn Try.prog (X := S_api_Offer) (Y := S_api_Span) (fun x => [isV x]) (fun y => isV y) _).mono ⟨hc, hc⟩ h) (fun h => isFn_one h)
theorem od_fn91 {Γ : List (Nat × Pr)} {x : Operand} {f : (S_api_Offer → Option S_api_Span)} (h : Od Γ x (isV f)) : Od Γ x (isFn Try.prog (X := S_api_Offer) (Y := S_api_Span) (fun x => [isV x]) (fun y => isV y) (f)) := h
theorem mk_fn91 {Γ : List (Nat × Pr)} {ty : TypeId} {f : (S_api_Offer → Option S_api_Span)} {g : FuncId} {xs : Array Operand} {κs : List Pr} (hC : OnlyC κs) (he : Enters Try.prog g) (hx : OdL Γ xs.toList κs) (h : ∀ (x : S_api_Offer) (y : S_api_Span), (f : S_api_Offer → Option S_api_Span) x = some y → CallOK Try.prog g ((fun x => [isV x] : S_api_Offer → List Pr) x ++ κs) ((fun y => isV y : S_api_Span → Pr) y)) : StepP Try.prog (.makeFunc (.func g) #[] xs) ty Γ (isV f) :=
  sp_makeFunc (X := S_api_Offer) (Y := S_api_Span) (A := fun x => [isV x]) (R := fun y => isV y) (f := f) hC he hx h
theorem of_fn91 {Γ : List (Nat × Pr)} {f : (S_api_Offer → Option S_api_Span)} {g : FuncId} (he : Enters Try.prog g) (h : ∀ (x : S_api_Offer) (y : S_api_Span), (f : S_api_Offer → Option S_api_Span) x = some y → CallOK Try.prog g ((fun x => [isV x] : S_api_Offer → List Pr) x) ((fun y => isV y : S_api_Span → Pr) y)) : Od Γ (.func g) (isV f) :=
  odf (X := S_api_Offer) (Y := S_api_Span) (A := fun x => [isV x]) (R := fun y => isV y) (f := f) he h
instance enc95 : Enc (Int → Option Bool) := Enc.single (fun c v f => (isFn Try.prog (X := Int) (Y := Bool) (fun x => [isV x]) (fun y => isV y) (f)).p ⟨c, c⟩ v) (fun hc h => (isFn Try.prog (X := Int) (Y := Bool) (fun x => [isV x]) (fun y => isV y) _).mono ⟨hc, hc⟩ h) (fun h => isFn_one h)
theorem od_fn95 {Γ : List (Nat × Pr)} {x : Operand} {f : (Int → Option Bool)} (h : Od Γ x (isV f)) : Od Γ x (isFn Try.prog (X := Int) (Y := Bool) (fun x => [isV x]) (fun y => isV y) (f)) := h
theorem mk_fn95 {Γ : List (Nat × Pr)} {ty : TypeId} {f : (Int → Option Bool)} {g : FuncId} {xs : Array Operand} {κs : List Pr} (hC : OnlyC κs) (he : Enters Try.prog g) (hx : OdL Γ xs.toList κs) (h : ∀ (x : Int) (y : Bool), (f : Int → Option Bool) x = some y → CallOK Try.prog g ((fun x => [isV x] : Int → List Pr) x ++ κs) ((fun y => isV y : Bool → Pr) y)) : StepP Try.prog (.makeFunc (.func g) #[] xs) ty Γ (isV f) :=
  sp_makeFunc (X := Int) (Y := Bool) (A := fun x => [isV x]) (R := fun y => isV y) (f := f) hC he hx h
theorem of_fn95 {Γ : List (Nat × Pr)} {f : (Int → Option Bool)} {g : FuncId} (he : Enters Try.prog g) (h : ∀ (x : Int) (y : Bool), (f : Int → Option Bool) x = some y → CallOK Try.prog g ((fun x => [isV x] : Int → List Pr) x) ((fun y => isV y : Bool → Pr) y)) : Od Γ (.func g) (isV f) :=
  odf (X := Int) (Y := Bool) (A := fun x => [isV x]) (R := fun y => isV y) (f := f) he h
instance enc121 : Enc (Int → Option Bool) := Enc.single (fun c v f => (isFn Try.prog (X := Int) (Y := Bool) (fun x => [isV x]) (fun y => isV y) (f)).p ⟨c, c⟩ v) (fun hc h => (isFn Try.prog (X := Int) (Y := Bool) (fun x => [isV x]) (fun y => isV y) _).mono ⟨hc, hc⟩ h) (fun h => isFn_one h)
theorem od_fn121 {Γ : List (Nat × Pr)} {x : Operand} {f : (Int → Option Bool)} (h : Od Γ x (isV f)) : Od Γ x (isFn Try.prog (X := Int) (Y := Bool) (fun x => [isV x]) (fun y => isV y) (f)) := h
theorem mk_fn121 {Γ : List (Nat × Pr)} {ty : TypeId} {f : (Int → Option Bool)} {g : FuncId} {xs : Array Operand} {κs : List Pr} (hC : OnlyC κs) (he : Enters Try.prog g) (hx : OdL Γ xs.toList κs) (h : ∀ (x : Int) (y : Bool), (f : Int → Option Bool) x = some y → CallOK Try.prog g ((fun x => [isV x] : Int → List Pr) x ++ κs) ((fun y => isV y : Bool → Pr) y)) : StepP Try.prog (.makeFunc (.func g) #[] xs) ty Γ (isV f) :=
  sp_makeFunc (X := Int) (Y := Bool) (A := fun x => [isV x]) (R := fun y => isV y) (f := f) hC he hx h
theorem of_fn121 {Γ : List (Nat × Pr)} {f : (Int → Option Bool)} {g : FuncId} (he : Enters Try.prog g) (h : ∀ (x : Int) (y : Bool), (f : Int → Option Bool) x = some y → CallOK Try.prog g ((fun x => [isV x] : Int → List Pr) x) ((fun y => isV y : Bool → Pr) y)) : Od Γ (.func g) (isV f) :=
  odf (X := Int) (Y := Bool) (A := fun x => [isV x]) (R := fun y => isV y) (f := f) he h
instance enc122 : Enc (Int → Option Int) := Enc.single (fun c v f => (isFn Try.prog (X := Int) (Y := Int) (fun x => [isV x]) (fun y => isV y) (f)).p ⟨c, c⟩ v) (fun hc h => (isFn Try.prog (X := Int) (Y := Int) (fun x => [isV x]) (fun y => isV y) _).mono ⟨hc, hc⟩ h) (fun h => isFn_one h)
theorem od_fn122 {Γ : List (Nat × Pr)} {x : Operand} {f : (Int → Option Int)} (h : Od Γ x (isV f)) : Od Γ x (isFn Try.prog (X := Int) (Y := Int) (fun x => [isV x]) (fun y => isV y) (f)) := h
theorem mk_fn122 {Γ : List (Nat × Pr)} {ty : TypeId} {f : (Int → Option Int)} {g : FuncId} {xs : Array Operand} {κs : List Pr} (hC : OnlyC κs) (he : Enters Try.prog g) (hx : OdL Γ xs.toList κs) (h : ∀ (x : Int) (y : Int), (f : Int → Option Int) x = some y → CallOK Try.prog g ((fun x => [isV x] : Int → List Pr) x ++ κs) ((fun y => isV y : Int → Pr) y)) : StepP Try.prog (.makeFunc (.func g) #[] xs) ty Γ (isV f) :=
  sp_makeFunc (X := Int) (Y := Int) (A := fun x => [isV x]) (R := fun y => isV y) (f := f) hC he hx h
theorem of_fn122 {Γ : List (Nat × Pr)} {f : (Int → Option Int)} {g : FuncId} (he : Enters Try.prog g) (h : ∀ (x : Int) (y : Int), (f : Int → Option Int) x = some y → CallOK Try.prog g ((fun x => [isV x] : Int → List Pr) x) ((fun y => isV y : Int → Pr) y)) : Od Γ (.func g) (isV f) :=
  odf (X := Int) (Y := Int) (A := fun x => [isV x]) (R := fun y => isV y) (f := f) he h
instance enc137 : Enc ((List Int) → Option Bool) := Enc.single (fun c v f => (isFn Try.prog (X := List Int) (Y := Bool) (fun x => [isV x]) (fun y => isV y) (f)).p ⟨c, c⟩ v) (fun hc h => (isFn Try.prog (X := List Int) (Y := Bool) (fun x => [isV x]) (fun y => isV y) _).mono ⟨hc, hc⟩ h) (fun h => isFn_one h)
theorem od_fn137 {Γ : List (Nat × Pr)} {x : Operand} {f : ((List Int) → Option Bool)} (h : Od Γ x (isV f)) : Od Γ x (isFn Try.prog (X := List Int) (Y := Bool) (fun x => [isV x]) (fun y => isV y) (f)) := h
theorem mk_fn137 {Γ : List (Nat × Pr)} {ty : TypeId} {f : ((List Int) → Option Bool)} {g : FuncId} {xs : Array Operand} {κs : List Pr} (hC : OnlyC κs) (he : Enters Try.prog g) (hx : OdL Γ xs.toList κs) (h : ∀ (x : List Int) (y : Bool), (f : (List Int) → Option Bool) x = some y → CallOK Try.prog g ((fun x => [isV x] : (List Int) → List Pr) x ++ κs) ((fun y => isV y : Bool → Pr) y)) : StepP Try.prog (.makeFunc (.func g) #[] xs) ty Γ (isV f) :=
  sp_makeFunc (X := List Int) (Y := Bool) (A := fun x => [isV x]) (R := fun y => isV y) (f := f) hC he hx h
theorem of_fn137 {Γ : List (Nat × Pr)} {f : ((List Int) → Option Bool)} {g : FuncId} (he : Enters Try.prog g) (h : ∀ (x : List Int) (y : Bool), (f : (List Int) → Option Bool) x = some y → CallOK Try.prog g ((fun x => [isV x] : (List Int) → List Pr) x) ((fun y => isV y : Bool → Pr) y)) : Od Γ (.func g) (isV f) :=
  odf (X := List Int) (Y := Bool) (A := fun x => [isV x]) (R := fun y => isV y) (f := f) he h
instance enc150 : Enc ((Vector Int 2) → (Vector Int 2) → Option Int) := Enc.single (fun c v f => (isFn Try.prog (X := (Vector Int 2) × (Vector Int 2)) (Y := Int) (fun x => [isV x.1, isV x.2]) (fun y => isV y) (fun x => f x.1 x.2)).p ⟨c, c⟩ v) (fun hc h => (isFn Try.prog (X := (Vector Int 2) × (Vector Int 2)) (Y := Int) (fun x => [isV x.1, isV x.2]) (fun y => isV y) _).mono ⟨hc, hc⟩ h) (fun h => isFn_one h)
theorem od_fn150 {Γ : List (Nat × Pr)} {x : Operand} {f : ((Vector Int 2) → (Vector Int 2) → Option Int)} (h : Od Γ x (isV f)) : Od Γ x (isFn Try.prog (X := (Vector Int 2) × (Vector Int 2)) (Y := Int) (fun x => [isV x.1, isV x.2]) (fun y => isV y) (fun x => f x.1 x.2)) := h
theorem mk_fn150 {Γ : List (Nat × Pr)} {ty : TypeId} {f : ((Vector Int 2) → (Vector Int 2) → Option Int)} {g : FuncId} {xs : Array Operand} {κs : List Pr} (hC : OnlyC κs) (he : Enters Try.prog g) (hx : OdL Γ xs.toList κs) (h : ∀ (x : (Vector Int 2) × (Vector Int 2)) (y : Int), (fun x => f x.1 x.2 : ((Vector Int 2) × (Vector Int 2)) → Option Int) x = some y → CallOK Try.prog g ((fun x => [isV x.1, isV x.2] : ((Vector Int 2) × (Vector Int 2)) → List Pr) x ++ κs) ((fun y => isV y : Int → Pr) y)) : StepP Try.prog (.makeFunc (.func g) #[] xs) ty Γ (isV f) :=
  sp_makeFunc (X := (Vector Int 2) × (Vector Int 2)) (Y := Int) (A := fun x => [isV x.1, isV x.2]) (R := fun y => isV y) (f := fun x => f x.1 x.2) hC he hx h
theorem of_fn150 {Γ : List (Nat × Pr)} {f : ((Vector Int 2) → (Vector Int 2) → Option Int)} {g : FuncId} (he : Enters Try.prog g) (h : ∀ (x : (Vector Int 2) × (Vector Int 2)) (y : Int), (fun x => f x.1 x.2 : ((Vector Int 2) × (Vector Int 2)) → Option Int) x = some y → CallOK Try.prog g ((fun x => [isV x.1, isV x.2] : ((Vector Int 2) × (Vector Int 2)) → List Pr) x) ((fun y => isV y : Int → Pr) y)) : Od Γ (.func g) (isV f) :=
  odf (X := (Vector Int 2) × (Vector Int 2)) (Y := Int) (A := fun x => [isV x.1, isV x.2]) (R := fun y => isV y) (f := fun x => f x.1 x.2) he h
theorem ty3 : TyP Try.prog 3 Int := TyP.mk' Try.underlying3 rfl (by kernel_rfl)
theorem ty4 : TyP Try.prog 4 Bool := TyP.mk' Try.underlying4 rfl (by kernel_rfl)
theorem ty22 : TyP Try.prog 22 (List S_api_Offer) := TyP.mk' Try.underlying22 rfl (by kernel_rfl)
theorem ty24 : TyP Try.prog 24 S_api_Market := TyP.mk' Try.underlying24 rfl (by kernel_rfl)
theorem ty27 : TyP Try.prog 27 (List Int) := TyP.mk' Try.underlying27 rfl (by kernel_rfl)
theorem ty48 : TyP Try.prog 48 (List (Vector Int 2)) := TyP.mk' Try.underlying48 rfl (by kernel_rfl)
theorem ty54 : TyP Try.prog 54 (Vector Int 2) := TyP.mk' Try.underlying54 rfl (by kernel_rfl)
theorem ty59 : TyP Try.prog 59 S_api_Offer := TyP.mk' Try.underlying59 rfl (by kernel_rfl)
theorem ty80 : TyP Try.prog 80 (List S_api_Span) := TyP.mk' Try.underlying80 rfl (by kernel_rfl)
theorem ty82 : TyP Try.prog 82 S_api_Span := TyP.mk' Try.underlying82 rfl (by kernel_rfl)
theorem ty95 : TyP Try.prog 95 (Int → Option Bool) := TyP.mk' Try.underlying95 rfl (by kernel_rfl)
theorem ty97 : TyP Try.prog 97 S_keeper_want := TyP.mk' Try.underlying97 rfl (by kernel_rfl)
theorem ty99 : TyP Try.prog 99 Int := TyP.mk' Try.underlying99 rfl (by kernel_rfl)
theorem ty108 : TyP Try.prog 108 S_keeper_choice := TyP.mk' Try.underlying108 rfl (by kernel_rfl)
theorem ty112 : TyP Try.prog 112 (List (List Int)) := TyP.mk' Try.underlying112 rfl (by kernel_rfl)
theorem ty121 : TyP Try.prog 121 (Int → Option Bool) := TyP.mk' Try.underlying121 rfl (by kernel_rfl)
theorem ty122 : TyP Try.prog 122 (Int → Option Int) := TyP.mk' Try.underlying122 rfl (by kernel_rfl)
theorem ty142 : TyP Try.prog 142 (Vector Bool 8) := TyP.mk' Try.underlying142 rfl (by kernel_rfl)
theorem sl22 : SlP Try.prog 22 59 S_api_Offer := ⟨Try.underlying22, ty59⟩
theorem sl27 : SlP Try.prog 27 3 Int := ⟨Try.underlying27, ty3⟩
theorem sl44 : SlP Try.prog 44 48 (List (Vector Int 2)) := ⟨Try.underlying44, ty48⟩
theorem sl48 : SlP Try.prog 48 54 (Vector Int 2) := ⟨Try.underlying48, ty54⟩
theorem sl75 : SlP Try.prog 75 27 (List Int) := ⟨Try.underlying75, ty27⟩
theorem sl80 : SlP Try.prog 80 82 S_api_Span := ⟨Try.underlying80, ty82⟩
theorem sl112 : SlP Try.prog 112 27 (List Int) := ⟨Try.underlying112, ty27⟩
theorem sl128 : SlP Try.prog 128 22 (List S_api_Offer) := ⟨Try.underlying128, ty22⟩
theorem sl152 : SlP Try.prog 152 80 (List S_api_Span) := ⟨Try.underlying152, ty80⟩
theorem fd24_0 : FieldP Try.prog 24 0 (fun x : S_api_Market => x.1) := FieldP.mk' Try.underlying24 rfl (by kernel_rfl) rfl fun c vs x h => by have := rep_fst h; exact this
theorem fd24_1 : FieldP Try.prog 24 1 (fun x : S_api_Market => x.2.1) := FieldP.mk' Try.underlying24 rfl (by kernel_rfl) rfl fun c vs x h => by have := rep_fst (rep_snd h); exact this
theorem fd24_2 : FieldP Try.prog 24 2 (fun x : S_api_Market => x.2.2) := FieldP.mk' Try.underlying24 rfl (by kernel_rfl) rfl fun c vs x h => by have := rep_all (rep_snd (rep_snd h)); simp only [List.drop_drop] at this; exact this
theorem fd59_0 : FieldP Try.prog 59 0 (fun x : S_api_Offer => x.1) := FieldP.mk' Try.underlying59 rfl (by kernel_rfl) rfl fun c vs x h => by have := rep_fst h; exact this
theorem fd59_1 : FieldP Try.prog 59 1 (fun x : S_api_Offer => x.2.1) := FieldP.mk' Try.underlying59 rfl (by kernel_rfl) rfl fun c vs x h => by have := rep_fst (rep_snd h); exact this
theorem fd59_2 : FieldP Try.prog 59 2 (fun x : S_api_Offer => x.2.2.1) := FieldP.mk' Try.underlying59 rfl (by kernel_rfl) rfl fun c vs x h => by have := rep_fst (rep_snd (rep_snd h)); simp only [List.drop_drop] at this; exact this
theorem fd59_3 : FieldP Try.prog 59 3 (fun x : S_api_Offer => x.2.2.2) := FieldP.mk' Try.underlying59 rfl (by kernel_rfl) rfl fun c vs x h => by have := rep_all (rep_snd (rep_snd (rep_snd h))); simp only [List.drop_drop] at this; exact this
theorem fd82_0 : FieldP Try.prog 82 0 (fun x : S_api_Span => x.1) := FieldP.mk' Try.underlying82 rfl (by kernel_rfl) rfl fun c vs x h => by have := rep_fst h; exact this
theorem fd82_1 : FieldP Try.prog 82 1 (fun x : S_api_Span => x.2) := FieldP.mk' Try.underlying82 rfl (by kernel_rfl) rfl fun c vs x h => by have := rep_all (rep_snd h); exact this
theorem fd97_0 : FieldP Try.prog 97 0 (fun x : S_keeper_want => x.1) := FieldP.mk' Try.underlying97 rfl (by kernel_rfl) rfl fun c vs x h => by have := rep_fst h; exact this
theorem fd106_0 : FieldP Try.prog 106 0 (fun x : S_keeper_numbers => x.1) := FieldP.mk' Try.underlying106 rfl (by kernel_rfl) rfl fun c vs x h => by have := rep_fst h; exact this
theorem fd106_1 : FieldP Try.prog 106 1 (fun x : S_keeper_numbers => x.2) := FieldP.mk' Try.underlying106 rfl (by kernel_rfl) rfl fun c vs x h => by have := rep_all (rep_snd h); exact this
theorem fd108_1 : FieldP Try.prog 108 1 (fun x : S_keeper_choice => x.2.1) := FieldP.mk' Try.underlying108 rfl (by kernel_rfl) rfl fun c vs x h => by have := rep_fst (rep_snd h); exact this
theorem fd108_2 : FieldP Try.prog 108 2 (fun x : S_keeper_choice => x.2.2) := FieldP.mk' Try.underlying108 rfl (by kernel_rfl) rfl fun c vs x h => by have := rep_all (rep_snd (rep_snd h)); simp only [List.drop_drop] at this; exact this
theorem ff97_0 {Γ : List (Nat × Pr)} {ty : TypeId} {x : Operand} {d : S_keeper_want} (hx : Od Γ x (isV d)) : StepP Try.prog (.field 97 x 0) ty Γ (isV d.1) := sp_field (f := fun x : S_keeper_want => x.1) Try.underlying97 rfl rfl ty95 (fun c vs x h => by have := rep_fst h; exact this) hx
theorem en16 : Enters Try.prog 16 := enters_of Try.func16 (by kernel_rfl) rfl
theorem en17 : Enters Try.prog 17 := enters_of Try.func17 (by kernel_rfl) rfl
theorem en18 : Enters Try.prog 18 := enters_of Try.func18 (by kernel_rfl) rfl
theorem en19 : Enters Try.prog 19 := enters_of Try.func19 (by kernel_rfl) rfl
theorem en20 : Enters Try.prog 20 := enters_of Try.func20 (by kernel_rfl) rfl
theorem en21 : Enters Try.prog 21 := enters_of Try.func21 (by kernel_rfl) rfl
theorem en22 : Enters Try.prog 22 := enters_of Try.func22 (by kernel_rfl) rfl
theorem en23 : Enters Try.prog 23 := enters_of Try.func23 (by kernel_rfl) rfl
theorem en24 : Enters Try.prog 24 := enters_of Try.func24 (by kernel_rfl) rfl
theorem en25 : Enters Try.prog 25 := enters_of Try.func25 (by kernel_rfl) rfl
theorem en26 : Enters Try.prog 26 := enters_of Try.func26 (by kernel_rfl) rfl
theorem en27 : Enters Try.prog 27 := enters_of Try.func27 (by kernel_rfl) rfl
theorem en28 : Enters Try.prog 28 := enters_of Try.func28 (by kernel_rfl) rfl
theorem en29 : Enters Try.prog 29 := enters_of Try.func29 (by kernel_rfl) rfl
theorem en30 : Enters Try.prog 30 := enters_of Try.func30 (by kernel_rfl) rfl
theorem en31 : Enters Try.prog 31 := enters_of Try.func31 (by kernel_rfl) rfl
theorem en32 : Enters Try.prog 32 := enters_of Try.func32 (by kernel_rfl) rfl
theorem en33 : Enters Try.prog 33 := enters_of Try.func33 (by kernel_rfl) rfl
theorem en34 : Enters Try.prog 34 := enters_of Try.func34 (by kernel_rfl) rfl
theorem en35 : Enters Try.prog 35 := enters_of Try.func35 (by kernel_rfl) rfl
theorem en36 : Enters Try.prog 36 := enters_of Try.func36 (by kernel_rfl) rfl
theorem en37 : Enters Try.prog 37 := enters_of Try.func37 (by kernel_rfl) rfl
theorem en38 : Enters Try.prog 38 := enters_of Try.func38 (by kernel_rfl) rfl
theorem en39 : Enters Try.prog 39 := enters_of Try.func39 (by kernel_rfl) rfl
theorem en40 : Enters Try.prog 40 := enters_of Try.func40 (by kernel_rfl) rfl
theorem en41 : Enters Try.prog 41 := enters_of Try.func41 (by kernel_rfl) rfl
theorem en42 : Enters Try.prog 42 := enters_of Try.func42 (by kernel_rfl) rfl
theorem en43 : Enters Try.prog 43 := enters_of Try.func43 (by kernel_rfl) rfl
theorem en44 : Enters Try.prog 44 := enters_of Try.func44 (by kernel_rfl) rfl
theorem en45 : Enters Try.prog 45 := enters_of Try.func45 (by kernel_rfl) rfl
theorem en46 : Enters Try.prog 46 := enters_of Try.func46 (by kernel_rfl) rfl
theorem en47 : Enters Try.prog 47 := enters_of Try.func47 (by kernel_rfl) rfl
theorem en48 : Enters Try.prog 48 := enters_of Try.func48 (by kernel_rfl) rfl
theorem en49 : Enters Try.prog 49 := enters_of Try.func49 (by kernel_rfl) rfl
theorem en50 : Enters Try.prog 50 := enters_of Try.func50 (by kernel_rfl) rfl
theorem en51 : Enters Try.prog 51 := enters_of Try.func51 (by kernel_rfl) rfl
theorem en52 : Enters Try.prog 52 := enters_of Try.func52 (by kernel_rfl) rfl
theorem en53 : Enters Try.prog 53 := enters_of Try.func53 (by kernel_rfl) rfl
theorem en54 : Enters Try.prog 54 := enters_of Try.func54 (by kernel_rfl) rfl
theorem en55 : Enters Try.prog 55 := enters_of Try.func55 (by kernel_rfl) rfl
theorem en56 : Enters Try.prog 56 := enters_of Try.func56 (by kernel_rfl) rfl
theorem en57 : Enters Try.prog 57 := enters_of Try.func57 (by kernel_rfl) rfl
theorem en58 : Enters Try.prog 58 := enters_of Try.func58 (by kernel_rfl) rfl
theorem en59 : Enters Try.prog 59 := enters_of Try.func59 (by kernel_rfl) rfl
theorem en60 : Enters Try.prog 60 := enters_of Try.func60 (by kernel_rfl) rfl
theorem en61 : Enters Try.prog 61 := enters_of Try.func61 (by kernel_rfl) rfl
theorem en62 : Enters Try.prog 62 := enters_of Try.func62 (by kernel_rfl) rfl
theorem en63 : Enters Try.prog 63 := enters_of Try.func63 (by kernel_rfl) rfl
theorem en64 : Enters Try.prog 64 := enters_of Try.func64 (by kernel_rfl) rfl
theorem en65 : Enters Try.prog 65 := enters_of Try.func65 (by kernel_rfl) rfl
theorem en66 : Enters Try.prog 66 := enters_of Try.func66 (by kernel_rfl) rfl
theorem en67 : Enters Try.prog 67 := enters_of Try.func67 (by kernel_rfl) rfl
theorem en68 : Enters Try.prog 68 := enters_of Try.func68 (by kernel_rfl) rfl
theorem en69 : Enters Try.prog 69 := enters_of Try.func69 (by kernel_rfl) rfl
theorem en70 : Enters Try.prog 70 := enters_of Try.func70 (by kernel_rfl) rfl
theorem en71 : Enters Try.prog 71 := enters_of Try.func71 (by kernel_rfl) rfl
theorem en72 : Enters Try.prog 72 := enters_of Try.func72 (by kernel_rfl) rfl
theorem en73 : Enters Try.prog 73 := enters_of Try.func73 (by kernel_rfl) rfl
theorem en74 : Enters Try.prog 74 := enters_of Try.func74 (by kernel_rfl) rfl
theorem en75 : Enters Try.prog 75 := enters_of Try.func75 (by kernel_rfl) rfl
theorem en76 : Enters Try.prog 76 := enters_of Try.func76 (by kernel_rfl) rfl
theorem en77 : Enters Try.prog 77 := enters_of Try.func77 (by kernel_rfl) rfl
theorem en78 : Enters Try.prog 78 := enters_of Try.func78 (by kernel_rfl) rfl
theorem en79 : Enters Try.prog 79 := enters_of Try.func79 (by kernel_rfl) rfl
theorem en80 : Enters Try.prog 80 := enters_of Try.func80 (by kernel_rfl) rfl
theorem en81 : Enters Try.prog 81 := enters_of Try.func81 (by kernel_rfl) rfl
theorem en82 : Enters Try.prog 82 := enters_of Try.func82 (by kernel_rfl) rfl
theorem en83 : Enters Try.prog 83 := enters_of Try.func83 (by kernel_rfl) rfl
theorem en84 : Enters Try.prog 84 := enters_of Try.func84 (by kernel_rfl) rfl
theorem en85 : Enters Try.prog 85 := enters_of Try.func85 (by kernel_rfl) rfl
theorem en86 : Enters Try.prog 86 := enters_of Try.func86 (by kernel_rfl) rfl
theorem en87 : Enters Try.prog 87 := enters_of Try.func87 (by kernel_rfl) rfl
theorem en88 : Enters Try.prog 88 := enters_of Try.func88 (by kernel_rfl) rfl
theorem en89 : Enters Try.prog 89 := enters_of Try.func89 (by kernel_rfl) rfl
theorem en90 : Enters Try.prog 90 := enters_of Try.func90 (by kernel_rfl) rfl
theorem en91 : Enters Try.prog 91 := enters_of Try.func91 (by kernel_rfl) rfl
theorem en92 : Enters Try.prog 92 := enters_of Try.func92 (by kernel_rfl) rfl
theorem en93 : Enters Try.prog 93 := enters_of Try.func93 (by kernel_rfl) rfl
theorem en94 : Enters Try.prog 94 := enters_of Try.func94 (by kernel_rfl) rfl
theorem en95 : Enters Try.prog 95 := enters_of Try.func95 (by kernel_rfl) rfl
theorem en96 : Enters Try.prog 96 := enters_of Try.func96 (by kernel_rfl) rfl
theorem en97 : Enters Try.prog 97 := enters_of Try.func97 (by kernel_rfl) rfl
theorem en98 : Enters Try.prog 98 := enters_of Try.func98 (by kernel_rfl) rfl
theorem en99 : Enters Try.prog 99 := enters_of Try.func99 (by kernel_rfl) rfl
theorem en100 : Enters Try.prog 100 := enters_of Try.func100 (by kernel_rfl) rfl
theorem en101 : Enters Try.prog 101 := enters_of Try.func101 (by kernel_rfl) rfl
theorem en102 : Enters Try.prog 102 := enters_of Try.func102 (by kernel_rfl) rfl
theorem en103 : Enters Try.prog 103 := enters_of Try.func103 (by kernel_rfl) rfl
theorem en104 : Enters Try.prog 104 := enters_of Try.func104 (by kernel_rfl) rfl
theorem en105 : Enters Try.prog 105 := enters_of Try.func105 (by kernel_rfl) rfl
theorem en106 : Enters Try.prog 106 := enters_of Try.func106 (by kernel_rfl) rfl
theorem en107 : Enters Try.prog 107 := enters_of Try.func107 (by kernel_rfl) rfl
theorem en108 : Enters Try.prog 108 := enters_of Try.func108 (by kernel_rfl) rfl
theorem en109 : Enters Try.prog 109 := enters_of Try.func109 (by kernel_rfl) rfl
theorem en110 : Enters Try.prog 110 := enters_of Try.func110 (by kernel_rfl) rfl
theorem en111 : Enters Try.prog 111 := enters_of Try.func111 (by kernel_rfl) rfl
theorem en112 : Enters Try.prog 112 := enters_of Try.func112 (by kernel_rfl) rfl
theorem en113 : Enters Try.prog 113 := enters_of Try.func113 (by kernel_rfl) rfl
theorem en114 : Enters Try.prog 114 := enters_of Try.func114 (by kernel_rfl) rfl
theorem en115 : Enters Try.prog 115 := enters_of Try.func115 (by kernel_rfl) rfl
theorem en116 : Enters Try.prog 116 := enters_of Try.func116 (by kernel_rfl) rfl
theorem en117 : Enters Try.prog 117 := enters_of Try.func117 (by kernel_rfl) rfl
theorem en118 : Enters Try.prog 118 := enters_of Try.func118 (by kernel_rfl) rfl
theorem en119 : Enters Try.prog 119 := enters_of Try.func119 (by kernel_rfl) rfl
theorem en120 : Enters Try.prog 120 := enters_of Try.func120 (by kernel_rfl) rfl
theorem en121 : Enters Try.prog 121 := enters_of Try.func121 (by kernel_rfl) rfl
theorem en122 : Enters Try.prog 122 := enters_of Try.func122 (by kernel_rfl) rfl
theorem en123 : Enters Try.prog 123 := enters_of Try.func123 (by kernel_rfl) rfl
theorem en124 : Enters Try.prog 124 := enters_of Try.func124 (by kernel_rfl) rfl
theorem en125 : Enters Try.prog 125 := enters_of Try.func125 (by kernel_rfl) rfl
theorem en126 : Enters Try.prog 126 := enters_of Try.func126 (by kernel_rfl) rfl
theorem en127 : Enters Try.prog 127 := enters_of Try.func127 (by kernel_rfl) rfl
theorem en128 : Enters Try.prog 128 := enters_of Try.func128 (by kernel_rfl) rfl
theorem en131 : Enters Try.prog 131 := enters_of Try.func131 (by kernel_rfl) rfl
theorem ar142 : ArP Try.prog 142 4 8 Bool := ⟨Try.underlying142, ty4, rfl⟩
theorem ar54 : ArP Try.prog 54 3 2 Int := ⟨Try.underlying54, ty3, rfl⟩
theorem ar66 : ArP Try.prog 66 54 2 (Vector Int 2) := ⟨Try.underlying66, ty54, rfl⟩
theorem bd106_ {Γ : List (Nat × Pr)} {ty : TypeId}   : StepP Try.prog (.build 106 #[]) ty Γ (isV (([], []) : S_keeper_numbers)) :=
  step_pure fun c w a hc hm => by
    refine ⟨.agg #[.slice none 0 0, .slice none 0 0], ?_, [.slice none 0 0, .slice none 0 0], rfl, ⟨[.slice none 0 0], [.slice none 0 0], rfl, (.inl ⟨none, 0, rfl, Nat.zero_le _, rfl⟩), (.inl ⟨none, 0, rfl, Nat.zero_le _, rfl⟩)⟩⟩
    have zr : (zeroValue 106).run Try.prog w = .ok (.agg #[.slice none 0 0, .slice none 0 0]) w := by kernel_rfl
    have si27 : (sizeOf 27).run Try.prog w = .ok 1 w := by kernel_rfl
    have zq : (Value.agg #[.slice none 0 0, .slice none 0 0]).cells = #[.slice none 0 0, .slice none 0 0] := rfl
    simp [execOp, plain, Instr.build, zr, run_underlying Try.underlying106, zq, Instr.fill, si27]
theorem bd106_01 {Γ : List (Nat × Pr)} {ty : TypeId} {x0 : List Int} {o0 : Operand} {x1 : List Int} {o1 : Operand} (h0 : Od Γ o0 (isV x0)) (h1 : Od Γ o1 (isV x1)) : StepP Try.prog (.build 106 #[(0, o0), (1, o1)]) ty Γ (isV ((x0, x1) : S_keeper_numbers)) :=
  step_pure fun c w a hc hm => by
    have g0 := h0.get hm (by simp [Op.operands])
    have c0 := cells_one (α := List Int) rfl g0
    have g1 := h1.get hm (by simp [Op.operands])
    have c1 := cells_one (α := List Int) rfl g1
    refine ⟨.agg #[a.eval o0, a.eval o1], ?_, [a.eval o0, a.eval o1], rfl, ⟨[a.eval o0], [a.eval o1], rfl, g0, g1⟩⟩
    have zr : (zeroValue 106).run Try.prog w = .ok (.agg #[.slice none 0 0, .slice none 0 0]) w := by kernel_rfl
    have si27 : (sizeOf 27).run Try.prog w = .ok 1 w := by kernel_rfl
    have zq : (Value.agg #[.slice none 0 0, .slice none 0 0]).cells = #[.slice none 0 0, .slice none 0 0] := rfl
    simp [execOp, plain, Instr.build, zr, run_underlying Try.underlying106, zq, Instr.fill, si27, c0, c1]
theorem bd106_0 {Γ : List (Nat × Pr)} {ty : TypeId} {x0 : List Int} {o0 : Operand} (h0 : Od Γ o0 (isV x0)) : StepP Try.prog (.build 106 #[(0, o0)]) ty Γ (isV ((x0, []) : S_keeper_numbers)) :=
  step_pure fun c w a hc hm => by
    have g0 := h0.get hm (by simp [Op.operands])
    have c0 := cells_one (α := List Int) rfl g0
    refine ⟨.agg #[a.eval o0, .slice none 0 0], ?_, [a.eval o0, .slice none 0 0], rfl, ⟨[a.eval o0], [.slice none 0 0], rfl, g0, (.inl ⟨none, 0, rfl, Nat.zero_le _, rfl⟩)⟩⟩
    have zr : (zeroValue 106).run Try.prog w = .ok (.agg #[.slice none 0 0, .slice none 0 0]) w := by kernel_rfl
    have si27 : (sizeOf 27).run Try.prog w = .ok 1 w := by kernel_rfl
    have zq : (Value.agg #[.slice none 0 0, .slice none 0 0]).cells = #[.slice none 0 0, .slice none 0 0] := rfl
    simp [execOp, plain, Instr.build, zr, run_underlying Try.underlying106, zq, Instr.fill, si27, c0]
theorem bd106_1 {Γ : List (Nat × Pr)} {ty : TypeId} {x1 : List Int} {o1 : Operand} (h1 : Od Γ o1 (isV x1)) : StepP Try.prog (.build 106 #[(1, o1)]) ty Γ (isV (([], x1) : S_keeper_numbers)) :=
  step_pure fun c w a hc hm => by
    have g1 := h1.get hm (by simp [Op.operands])
    have c1 := cells_one (α := List Int) rfl g1
    refine ⟨.agg #[.slice none 0 0, a.eval o1], ?_, [.slice none 0 0, a.eval o1], rfl, ⟨[.slice none 0 0], [a.eval o1], rfl, (.inl ⟨none, 0, rfl, Nat.zero_le _, rfl⟩), g1⟩⟩
    have zr : (zeroValue 106).run Try.prog w = .ok (.agg #[.slice none 0 0, .slice none 0 0]) w := by kernel_rfl
    have si27 : (sizeOf 27).run Try.prog w = .ok 1 w := by kernel_rfl
    have zq : (Value.agg #[.slice none 0 0, .slice none 0 0]).cells = #[.slice none 0 0, .slice none 0 0] := rfl
    simp [execOp, plain, Instr.build, zr, run_underlying Try.underlying106, zq, Instr.fill, si27, c1]
theorem bd108_ {Γ : List (Nat × Pr)} {ty : TypeId}   : StepP Try.prog (.build 108 #[]) ty Γ (isV ((false, 0, 0) : S_keeper_choice)) :=
  step_pure fun c w a hc hm => by
    refine ⟨.agg #[.bool false, .int .i64 0, .int .i64 0], ?_, [.bool false, .int .i64 0, .int .i64 0], rfl, ⟨[.bool false], [.int .i64 0, .int .i64 0], rfl, rfl, ⟨[.int .i64 0], [.int .i64 0], rfl, rfl, rfl⟩⟩⟩
    have zr : (zeroValue 108).run Try.prog w = .ok (.agg #[.bool false, .int .i64 0, .int .i64 0]) w := by kernel_rfl
    have si3 : (sizeOf 3).run Try.prog w = .ok 1 w := by kernel_rfl
    have si4 : (sizeOf 4).run Try.prog w = .ok 1 w := by kernel_rfl
    have si99 : (sizeOf 99).run Try.prog w = .ok 1 w := by kernel_rfl
    have zq : (Value.agg #[.bool false, .int .i64 0, .int .i64 0]).cells = #[.bool false, .int .i64 0, .int .i64 0] := rfl
    simp [execOp, plain, Instr.build, zr, run_underlying Try.underlying108, zq, Instr.fill, si3, si4, si99]
theorem bd108_012 {Γ : List (Nat × Pr)} {ty : TypeId} {x0 : Bool} {o0 : Operand} {x1 : Int} {o1 : Operand} {x2 : Int} {o2 : Operand} (h0 : Od Γ o0 (isV x0)) (h1 : Od Γ o1 (isV x1)) (h2 : Od Γ o2 (isV x2)) : StepP Try.prog (.build 108 #[(0, o0), (1, o1), (2, o2)]) ty Γ (isV ((x0, x1, x2) : S_keeper_choice)) :=
  step_pure fun c w a hc hm => by
    have g0 := h0.get hm (by simp [Op.operands])
    have c0 := cells_one (α := Bool) rfl g0
    have g1 := h1.get hm (by simp [Op.operands])
    have c1 := cells_one (α := Int) rfl g1
    have g2 := h2.get hm (by simp [Op.operands])
    have c2 := cells_one (α := Int) rfl g2
    refine ⟨.agg #[a.eval o0, a.eval o1, a.eval o2], ?_, [a.eval o0, a.eval o1, a.eval o2], rfl, ⟨[a.eval o0], [a.eval o1, a.eval o2], rfl, g0, ⟨[a.eval o1], [a.eval o2], rfl, g1, g2⟩⟩⟩
    have zr : (zeroValue 108).run Try.prog w = .ok (.agg #[.bool false, .int .i64 0, .int .i64 0]) w := by kernel_rfl
    have si3 : (sizeOf 3).run Try.prog w = .ok 1 w := by kernel_rfl
    have si4 : (sizeOf 4).run Try.prog w = .ok 1 w := by kernel_rfl
    have si99 : (sizeOf 99).run Try.prog w = .ok 1 w := by kernel_rfl
    have zq : (Value.agg #[.bool false, .int .i64 0, .int .i64 0]).cells = #[.bool false, .int .i64 0, .int .i64 0] := rfl
    simp [execOp, plain, Instr.build, zr, run_underlying Try.underlying108, zq, Instr.fill, si3, si4, si99, c0, c1, c2]
theorem bd24_ {Γ : List (Nat × Pr)} {ty : TypeId}   : StepP Try.prog (.build 24 #[]) ty Γ (isV ((0, [], []) : S_api_Market)) :=
  step_pure fun c w a hc hm => by
    refine ⟨.agg #[.int .i64 0, .slice none 0 0, .slice none 0 0], ?_, [.int .i64 0, .slice none 0 0, .slice none 0 0], rfl, ⟨[.int .i64 0], [.slice none 0 0, .slice none 0 0], rfl, rfl, ⟨[.slice none 0 0], [.slice none 0 0], rfl, (.inl ⟨none, 0, rfl, Nat.zero_le _, rfl⟩), (.inl ⟨none, 0, rfl, Nat.zero_le _, rfl⟩)⟩⟩⟩
    have zr : (zeroValue 24).run Try.prog w = .ok (.agg #[.int .i64 0, .slice none 0 0, .slice none 0 0]) w := by kernel_rfl
    have si3 : (sizeOf 3).run Try.prog w = .ok 1 w := by kernel_rfl
    have si22 : (sizeOf 22).run Try.prog w = .ok 1 w := by kernel_rfl
    have zq : (Value.agg #[.int .i64 0, .slice none 0 0, .slice none 0 0]).cells = #[.int .i64 0, .slice none 0 0, .slice none 0 0] := rfl
    simp [execOp, plain, Instr.build, zr, run_underlying Try.underlying24, zq, Instr.fill, si3, si22]
theorem bd24_02 {Γ : List (Nat × Pr)} {ty : TypeId} {x0 : Int} {o0 : Operand} {x2 : List S_api_Offer} {o2 : Operand} (h0 : Od Γ o0 (isV x0)) (h2 : Od Γ o2 (isV x2)) : StepP Try.prog (.build 24 #[(0, o0), (2, o2)]) ty Γ (isV ((x0, [], x2) : S_api_Market)) :=
  step_pure fun c w a hc hm => by
    have g0 := h0.get hm (by simp [Op.operands])
    have c0 := cells_one (α := Int) rfl g0
    have g2 := h2.get hm (by simp [Op.operands])
    have c2 := cells_one (α := List S_api_Offer) rfl g2
    refine ⟨.agg #[a.eval o0, .slice none 0 0, a.eval o2], ?_, [a.eval o0, .slice none 0 0, a.eval o2], rfl, ⟨[a.eval o0], [.slice none 0 0, a.eval o2], rfl, g0, ⟨[.slice none 0 0], [a.eval o2], rfl, (.inl ⟨none, 0, rfl, Nat.zero_le _, rfl⟩), g2⟩⟩⟩
    have zr : (zeroValue 24).run Try.prog w = .ok (.agg #[.int .i64 0, .slice none 0 0, .slice none 0 0]) w := by kernel_rfl
    have si3 : (sizeOf 3).run Try.prog w = .ok 1 w := by kernel_rfl
    have si22 : (sizeOf 22).run Try.prog w = .ok 1 w := by kernel_rfl
    have zq : (Value.agg #[.int .i64 0, .slice none 0 0, .slice none 0 0]).cells = #[.int .i64 0, .slice none 0 0, .slice none 0 0] := rfl
    simp [execOp, plain, Instr.build, zr, run_underlying Try.underlying24, zq, Instr.fill, si3, si22, c0, c2]
theorem bd59_0123 {Γ : List (Nat × Pr)} {ty : TypeId} {x0 : Int} {o0 : Operand} {x1 : Int} {o1 : Operand} {x2 : Int} {o2 : Operand} {x3 : Int} {o3 : Operand} (h0 : Od Γ o0 (isV x0)) (h1 : Od Γ o1 (isV x1)) (h2 : Od Γ o2 (isV x2)) (h3 : Od Γ o3 (isV x3)) : StepP Try.prog (.build 59 #[(0, o0), (1, o1), (2, o2), (3, o3)]) ty Γ (isV ((x0, x1, x2, x3) : S_api_Offer)) :=
  step_pure fun c w a hc hm => by
    have g0 := h0.get hm (by simp [Op.operands])
    have c0 := cells_one (α := Int) rfl g0
    have g1 := h1.get hm (by simp [Op.operands])
    have c1 := cells_one (α := Int) rfl g1
    have g2 := h2.get hm (by simp [Op.operands])
    have c2 := cells_one (α := Int) rfl g2
    have g3 := h3.get hm (by simp [Op.operands])
    have c3 := cells_one (α := Int) rfl g3
    refine ⟨.agg #[a.eval o0, a.eval o1, a.eval o2, a.eval o3], ?_, [a.eval o0, a.eval o1, a.eval o2, a.eval o3], rfl, ⟨[a.eval o0], [a.eval o1, a.eval o2, a.eval o3], rfl, g0, ⟨[a.eval o1], [a.eval o2, a.eval o3], rfl, g1, ⟨[a.eval o2], [a.eval o3], rfl, g2, g3⟩⟩⟩⟩
    have zr : (zeroValue 59).run Try.prog w = .ok (.agg #[.int .i64 0, .int .i64 0, .int .i64 0, .int .i64 0]) w := by kernel_rfl
    have si3 : (sizeOf 3).run Try.prog w = .ok 1 w := by kernel_rfl
    have zq : (Value.agg #[.int .i64 0, .int .i64 0, .int .i64 0, .int .i64 0]).cells = #[.int .i64 0, .int .i64 0, .int .i64 0, .int .i64 0] := rfl
    simp [execOp, plain, Instr.build, zr, run_underlying Try.underlying59, zq, Instr.fill, si3, c0, c1, c2, c3]
theorem bd59_013 {Γ : List (Nat × Pr)} {ty : TypeId} {x0 : Int} {o0 : Operand} {x1 : Int} {o1 : Operand} {x3 : Int} {o3 : Operand} (h0 : Od Γ o0 (isV x0)) (h1 : Od Γ o1 (isV x1)) (h3 : Od Γ o3 (isV x3)) : StepP Try.prog (.build 59 #[(0, o0), (1, o1), (3, o3)]) ty Γ (isV ((x0, x1, 0, x3) : S_api_Offer)) :=
  step_pure fun c w a hc hm => by
    have g0 := h0.get hm (by simp [Op.operands])
    have c0 := cells_one (α := Int) rfl g0
    have g1 := h1.get hm (by simp [Op.operands])
    have c1 := cells_one (α := Int) rfl g1
    have g3 := h3.get hm (by simp [Op.operands])
    have c3 := cells_one (α := Int) rfl g3
    refine ⟨.agg #[a.eval o0, a.eval o1, .int .i64 0, a.eval o3], ?_, [a.eval o0, a.eval o1, .int .i64 0, a.eval o3], rfl, ⟨[a.eval o0], [a.eval o1, .int .i64 0, a.eval o3], rfl, g0, ⟨[a.eval o1], [.int .i64 0, a.eval o3], rfl, g1, ⟨[.int .i64 0], [a.eval o3], rfl, rfl, g3⟩⟩⟩⟩
    have zr : (zeroValue 59).run Try.prog w = .ok (.agg #[.int .i64 0, .int .i64 0, .int .i64 0, .int .i64 0]) w := by kernel_rfl
    have si3 : (sizeOf 3).run Try.prog w = .ok 1 w := by kernel_rfl
    have zq : (Value.agg #[.int .i64 0, .int .i64 0, .int .i64 0, .int .i64 0]).cells = #[.int .i64 0, .int .i64 0, .int .i64 0, .int .i64 0] := rfl
    simp [execOp, plain, Instr.build, zr, run_underlying Try.underlying59, zq, Instr.fill, si3, c0, c1, c3]
theorem bd82_ {Γ : List (Nat × Pr)} {ty : TypeId}   : StepP Try.prog (.build 82 #[]) ty Γ (isV ((0, 0) : S_api_Span)) :=
  step_pure fun c w a hc hm => by
    refine ⟨.agg #[.int .i64 0, .int .i64 0], ?_, [.int .i64 0, .int .i64 0], rfl, ⟨[.int .i64 0], [.int .i64 0], rfl, rfl, rfl⟩⟩
    have zr : (zeroValue 82).run Try.prog w = .ok (.agg #[.int .i64 0, .int .i64 0]) w := by kernel_rfl
    have si3 : (sizeOf 3).run Try.prog w = .ok 1 w := by kernel_rfl
    have zq : (Value.agg #[.int .i64 0, .int .i64 0]).cells = #[.int .i64 0, .int .i64 0] := rfl
    simp [execOp, plain, Instr.build, zr, run_underlying Try.underlying82, zq, Instr.fill, si3]
theorem bd82_01 {Γ : List (Nat × Pr)} {ty : TypeId} {x0 : Int} {o0 : Operand} {x1 : Int} {o1 : Operand} (h0 : Od Γ o0 (isV x0)) (h1 : Od Γ o1 (isV x1)) : StepP Try.prog (.build 82 #[(0, o0), (1, o1)]) ty Γ (isV ((x0, x1) : S_api_Span)) :=
  step_pure fun c w a hc hm => by
    have g0 := h0.get hm (by simp [Op.operands])
    have c0 := cells_one (α := Int) rfl g0
    have g1 := h1.get hm (by simp [Op.operands])
    have c1 := cells_one (α := Int) rfl g1
    refine ⟨.agg #[a.eval o0, a.eval o1], ?_, [a.eval o0, a.eval o1], rfl, ⟨[a.eval o0], [a.eval o1], rfl, g0, g1⟩⟩
    have zr : (zeroValue 82).run Try.prog w = .ok (.agg #[.int .i64 0, .int .i64 0]) w := by kernel_rfl
    have si3 : (sizeOf 3).run Try.prog w = .ok 1 w := by kernel_rfl
    have zq : (Value.agg #[.int .i64 0, .int .i64 0]).cells = #[.int .i64 0, .int .i64 0] := rfl
    simp [execOp, plain, Instr.build, zr, run_underlying Try.underlying82, zq, Instr.fill, si3, c0, c1]
theorem bd97_0 {Γ : List (Nat × Pr)} {ty : TypeId} {x0 : (Int → Option Bool)} {o0 : Operand} (h0 : Od Γ o0 (isV x0)) : StepP Try.prog (.build 97 #[(0, o0)]) ty Γ (isV ((x0, ()) : S_keeper_want)) :=
  step_pure fun c w a hc hm => by
    have g0 := h0.get hm (by simp [Op.operands])
    have c0 := cells_one (α := (Int → Option Bool)) rfl g0
    refine ⟨.agg #[a.eval o0], ?_, [a.eval o0], rfl, ⟨[a.eval o0], [], rfl, g0, rfl⟩⟩
    have zr : (zeroValue 97).run Try.prog w = .ok (.agg #[.nilFunc]) w := by kernel_rfl
    have si95 : (sizeOf 95).run Try.prog w = .ok 1 w := by kernel_rfl
    have zq : (Value.agg #[.nilFunc]).cells = #[.nilFunc] := rfl
    simp [execOp, plain, Instr.build, zr, run_underlying Try.underlying97, zq, Instr.fill, si95, c0]
theorem bd54 {Γ : List (Nat × Pr)} {ty : TypeId} {x0 : Int} {o0 : Operand} {x1 : Int} {o1 : Operand} (h0 : Od Γ o0 (isV x0)) (h1 : Od Γ o1 (isV x1)) : StepP Try.prog (.build 54 #[(0, o0), (1, o1)]) ty Γ (isV (#v[x0, x1] : Vector Int 2)) :=
  step_pure fun c w a hc hm => by
    have g0 := h0.get hm (by simp [Op.operands])
    have c0 := cells_one (α := Int) rfl g0
    have g1 := h1.get hm (by simp [Op.operands])
    have c1 := cells_one (α := Int) rfl g1
    refine ⟨.agg #[a.eval o0, a.eval o1], ?_, [a.eval o0, a.eval o1], rfl, ⟨[a.eval o0], [a.eval o1], rfl, g0, ⟨[a.eval o1], [], rfl, g1, rfl⟩⟩⟩
    have zr : (zeroValue 54).run Try.prog w = .ok (.agg #[.int .i64 0, .int .i64 0]) w := by kernel_rfl
    have si3 : (sizeOf 3).run Try.prog w = .ok 1 w := by kernel_rfl
    have zq : (Value.agg #[.int .i64 0, .int .i64 0]).cells = #[.int .i64 0, .int .i64 0] := rfl
    simp [execOp, plain, Instr.build, zr, run_underlying Try.underlying54, zq, Instr.fill, si3, c0, c1]
theorem bz142 {Γ : List (Nat × Pr)} {ty : TypeId} : StepP Try.prog (.build 142 #[]) ty Γ (isV (#v[false, false, false, false, false, false, false, false] : Vector Bool 8)) := sp_buildZ Try.underlying142 ⟨_, rfl⟩ (z := .agg #[.bool false, .bool false, .bool false, .bool false, .bool false, .bool false, .bool false, .bool false]) (fun w => by kernel_rfl) rfl (fun c => (show RepL c [.bool false, .bool false, .bool false, .bool false, .bool false, .bool false, .bool false, .bool false] [false, false, false, false, false, false, false, false] from ⟨[.bool false], [.bool false, .bool false, .bool false, .bool false, .bool false, .bool false, .bool false], rfl, rfl, ⟨[.bool false], [.bool false, .bool false, .bool false, .bool false, .bool false, .bool false], rfl, rfl, ⟨[.bool false], [.bool false, .bool false, .bool false, .bool false, .bool false], rfl, rfl, ⟨[.bool false], [.bool false, .bool false, .bool false, .bool false], rfl, rfl, ⟨[.bool false], [.bool false, .bool false, .bool false], rfl, rfl, ⟨[.bool false], [.bool false, .bool false], rfl, rfl, ⟨[.bool false], [.bool false], rfl, rfl, ⟨[.bool false], [], rfl, rfl, rfl⟩⟩⟩⟩⟩⟩⟩⟩))
theorem bz54 {Γ : List (Nat × Pr)} {ty : TypeId} : StepP Try.prog (.build 54 #[]) ty Γ (isV (#v[0, 0] : Vector Int 2)) := sp_buildZ Try.underlying54 ⟨_, rfl⟩ (z := .agg #[.int .i64 0, .int .i64 0]) (fun w => by kernel_rfl) rfl (fun c => (show RepL c [.int .i64 0, .int .i64 0] [0, 0] from ⟨[.int .i64 0], [.int .i64 0], rfl, rfl, ⟨[.int .i64 0], [], rfl, rfl, rfl⟩⟩))
theorem fo24_1 : FieldO Try.prog 24 1 1 := FieldO.mk' Try.underlying24 rfl (by kernel_rfl) rfl
theorem fo24_2 : FieldO Try.prog 24 2 2 := FieldO.mk' Try.underlying24 rfl (by kernel_rfl) rfl
theorem slR75 : SlP Try.prog 75 27 Raw := ⟨Try.underlying75, TyP.mk' Try.underlying27 rfl (by kernel_rfl)⟩
theorem zeR27 : ZeroP Try.prog 27 Raw := ZeroP.mk' (by kernel_rfl)
theorem tyR121_w : TyP Try.prog 121 Raw := TyP.mk' Try.underlying121 rfl (by kernel_rfl)
theorem ziR121_w : ZeroIs Try.prog 121 (Raw.mk (.nilFunc)) := ZeroIs.mk' (cs := [.nilFunc]) (by kernel_rfl) (fun c => ⟨rfl, rfl⟩)
theorem tyR22_w : TyP Try.prog 22 Raw := TyP.mk' Try.underlying22 rfl (by kernel_rfl)
theorem ziR22_w : ZeroIs Try.prog 22 (Raw.mk (.slice none 0 0)) := ZeroIs.mk' (cs := [.slice none 0 0]) (by kernel_rfl) (fun c => ⟨rfl, rfl⟩)
theorem tyR24_12 : TyP Try.prog 24 (Int × Raw × Raw) := TyP.mk' Try.underlying24 rfl (by kernel_rfl)
theorem ziR24_12 : ZeroIs Try.prog 24 ((0, Raw.mk (.slice none 0 0), Raw.mk (.slice none 0 0)) : Int × Raw × Raw) := ZeroIs.mk' (cs := [.int .i64 0, .slice none 0 0, .slice none 0 0]) (by kernel_rfl) (fun c => ⟨[.int .i64 0], [.slice none 0 0, .slice none 0 0], rfl, rfl, ⟨[.slice none 0 0], [.slice none 0 0], rfl, ⟨rfl, rfl⟩, ⟨rfl, rfl⟩⟩⟩)
theorem fdR24_12_0 : FieldP Try.prog 24 0 (fun x : Int × Raw × Raw => x.1) := FieldP.mk' Try.underlying24 rfl (by kernel_rfl) rfl fun c vs x h => by have := rep_fst h; exact this
theorem fdR24_12_1 : FieldP Try.prog 24 1 (fun x : Int × Raw × Raw => x.2.1) := FieldP.mk' Try.underlying24 rfl (by kernel_rfl) rfl fun c vs x h => by have := rep_fst (rep_snd h); exact this
theorem fdR24_12_2 : FieldP Try.prog 24 2 (fun x : Int × Raw × Raw => x.2.2) := FieldP.mk' Try.underlying24 rfl (by kernel_rfl) rfl fun c vs x h => by have := rep_all (rep_snd (rep_snd h)); simp only [List.drop_drop] at this; exact this
theorem tyR24_2 : TyP Try.prog 24 (Int × (List S_api_Offer) × Raw) := TyP.mk' Try.underlying24 rfl (by kernel_rfl)
theorem ziR24_2 : ZeroIs Try.prog 24 ((0, [], Raw.mk (.slice none 0 0)) : Int × (List S_api_Offer) × Raw) := ZeroIs.mk' (cs := [.int .i64 0, .slice none 0 0, .slice none 0 0]) (by kernel_rfl) (fun c => ⟨[.int .i64 0], [.slice none 0 0, .slice none 0 0], rfl, rfl, ⟨[.slice none 0 0], [.slice none 0 0], rfl, (.inl ⟨none, 0, rfl, Nat.zero_le _, rfl⟩), ⟨rfl, rfl⟩⟩⟩)
theorem fdR24_2_0 : FieldP Try.prog 24 0 (fun x : Int × (List S_api_Offer) × Raw => x.1) := FieldP.mk' Try.underlying24 rfl (by kernel_rfl) rfl fun c vs x h => by have := rep_fst h; exact this
theorem fdR24_2_1 : FieldP Try.prog 24 1 (fun x : Int × (List S_api_Offer) × Raw => x.2.1) := FieldP.mk' Try.underlying24 rfl (by kernel_rfl) rfl fun c vs x h => by have := rep_fst (rep_snd h); exact this
theorem fdR24_2_2 : FieldP Try.prog 24 2 (fun x : Int × (List S_api_Offer) × Raw => x.2.2) := FieldP.mk' Try.underlying24 rfl (by kernel_rfl) rfl fun c vs x h => by have := rep_all (rep_snd (rep_snd h)); simp only [List.drop_drop] at this; exact this
theorem tyR27_w : TyP Try.prog 27 Raw := TyP.mk' Try.underlying27 rfl (by kernel_rfl)
theorem ziR27_w : ZeroIs Try.prog 27 (Raw.mk (.slice none 0 0)) := ZeroIs.mk' (cs := [.slice none 0 0]) (by kernel_rfl) (fun c => ⟨rfl, rfl⟩)
theorem bdR24_01_2 {Γ : List (Nat × Pr)} {ty : TypeId} {x0 : Int} {o0 : Operand} {x1 : List S_api_Offer} {o1 : Operand} (h0 : Od Γ o0 (isV x0)) (h1 : Od Γ o1 (isV x1)) : StepP Try.prog (.build 24 #[(0, o0), (1, o1)]) ty Γ (isV ((x0, x1, (Raw.mk (.slice none 0 0))) : Int × (List S_api_Offer) × Raw)) :=
  step_pure fun c w a hc hm => by
    have g0 := h0.get hm (by simp [Op.operands])
    have c0 := cells_one (α := Int) rfl g0
    have g1 := h1.get hm (by simp [Op.operands])
    have c1 := cells_one (α := List S_api_Offer) rfl g1
    refine ⟨.agg #[a.eval o0, a.eval o1, .slice none 0 0], ?_, [a.eval o0, a.eval o1, .slice none 0 0], rfl, ⟨[a.eval o0], [a.eval o1, .slice none 0 0], rfl, g0, ⟨[a.eval o1], [.slice none 0 0], rfl, g1, ⟨rfl, rfl⟩⟩⟩⟩
    have zr : (zeroValue 24).run Try.prog w = .ok (.agg #[.int .i64 0, .slice none 0 0, .slice none 0 0]) w := by kernel_rfl
    have si3 : (sizeOf 3).run Try.prog w = .ok 1 w := by kernel_rfl
    have si22 : (sizeOf 22).run Try.prog w = .ok 1 w := by kernel_rfl
    have zq : (Value.agg #[.int .i64 0, .slice none 0 0, .slice none 0 0]).cells = #[.int .i64 0, .slice none 0 0, .slice none 0 0] := rfl
    simp [execOp, plain, Instr.build, zr, run_underlying Try.underlying24, zq, Instr.fill, si3, si22, c0, c1]
theorem bdR24_0_12 {Γ : List (Nat × Pr)} {ty : TypeId} {x0 : Int} {o0 : Operand} (h0 : Od Γ o0 (isV x0)) : StepP Try.prog (.build 24 #[(0, o0)]) ty Γ (isV ((x0, (Raw.mk (.slice none 0 0)), (Raw.mk (.slice none 0 0))) : Int × Raw × Raw)) :=
  step_pure fun c w a hc hm => by
    have g0 := h0.get hm (by simp [Op.operands])
    have c0 := cells_one (α := Int) rfl g0
    refine ⟨.agg #[a.eval o0, .slice none 0 0, .slice none 0 0], ?_, [a.eval o0, .slice none 0 0, .slice none 0 0], rfl, ⟨[a.eval o0], [.slice none 0 0, .slice none 0 0], rfl, g0, ⟨[.slice none 0 0], [.slice none 0 0], rfl, ⟨rfl, rfl⟩, ⟨rfl, rfl⟩⟩⟩⟩
    have zr : (zeroValue 24).run Try.prog w = .ok (.agg #[.int .i64 0, .slice none 0 0, .slice none 0 0]) w := by kernel_rfl
    have si3 : (sizeOf 3).run Try.prog w = .ok 1 w := by kernel_rfl
    have si22 : (sizeOf 22).run Try.prog w = .ok 1 w := by kernel_rfl
    have zq : (Value.agg #[.int .i64 0, .slice none 0 0, .slice none 0 0]).cells = #[.int .i64 0, .slice none 0 0, .slice none 0 0] := rfl
    simp [execOp, plain, Instr.build, zr, run_underlying Try.underlying24, zq, Instr.fill, si3, si22, c0]
theorem sf24_12_1 {x0 : Int} {x1 : Raw} {x2 : Raw} {z : Raw} : SetF 1 ((x0, x1, x2) : Int × Raw × Raw) z ((x0, z, x2) : Int × Raw × Raw) := (SetF.snd (off := 0) (SetF.fst (off := 0) SetF.self) rfl)
theorem sf24_12_2 {x0 : Int} {x1 : Raw} {x2 : Raw} {z : Raw} : SetF 2 ((x0, x1, x2) : Int × Raw × Raw) z ((x0, x1, z) : Int × Raw × Raw) := (SetF.snd (off := 1) (SetF.snd (off := 0) SetF.self rfl) rfl)
theorem sf24_2_2 {x0 : Int} {x1 : (List S_api_Offer)} {x2 : Raw} {z : Raw} : SetF 2 ((x0, x1, x2) : Int × (List S_api_Offer) × Raw) z ((x0, x1, z) : Int × (List S_api_Offer) × Raw) := (SetF.snd (off := 1) (SetF.snd (off := 0) SetF.self rfl) rfl)
theorem sz27 : (Try.prog.info? 27).map (·.size) = some 1 := by kernel_rfl
theorem sz48 : (Try.prog.info? 48).map (·.size) = some 1 := by kernel_rfl
theorem ze108 : ZeroP Try.prog 108 S_keeper_choice := ZeroP.mk' (by kernel_rfl)
theorem ze122 : ZeroP Try.prog 122 (Int → Option Int) := ZeroP.mk' (by kernel_rfl)
theorem ze22 : ZeroP Try.prog 22 (List S_api_Offer) := ZeroP.mk' (by kernel_rfl)
theorem ze24 : ZeroP Try.prog 24 S_api_Market := ZeroP.mk' (by kernel_rfl)
theorem ze27 : ZeroP Try.prog 27 (List Int) := ZeroP.mk' (by kernel_rfl)
theorem ze3 : ZeroP Try.prog 3 Int := ZeroP.mk' (by kernel_rfl)
theorem ze48 : ZeroP Try.prog 48 (List (Vector Int 2)) := ZeroP.mk' (by kernel_rfl)
theorem ze54 : ZeroP Try.prog 54 (Vector Int 2) := ZeroP.mk' (by kernel_rfl)
theorem ze59 : ZeroP Try.prog 59 S_api_Offer := ZeroP.mk' (by kernel_rfl)
theorem ze80 : ZeroP Try.prog 80 (List S_api_Span) := ZeroP.mk' (by kernel_rfl)
theorem ze82 : ZeroP Try.prog 82 S_api_Span := ZeroP.mk' (by kernel_rfl)
theorem ze97 : ZeroP Try.prog 97 S_keeper_want := ZeroP.mk' (by kernel_rfl)
theorem zi108 : ZeroIs Try.prog 108 ((false, 0, 0) : S_keeper_choice) := ZeroIs.mk' (cs := [.bool false, .int .i64 0, .int .i64 0]) (by kernel_rfl) (fun c => ⟨[.bool false], [.int .i64 0, .int .i64 0], rfl, rfl, ⟨[.int .i64 0], [.int .i64 0], rfl, rfl, rfl⟩⟩)
theorem zi112 : ZeroIs Try.prog 112 ([] : List (List Int)) := ZeroIs.mk' (cs := [.slice none 0 0]) (by kernel_rfl) (fun c => (.inl ⟨none, 0, rfl, Nat.zero_le _, rfl⟩))
theorem zi142 : ZeroIs Try.prog 142 (#v[false, false, false, false, false, false, false, false] : Vector Bool 8) := ZeroIs.mk' (cs := [.bool false, .bool false, .bool false, .bool false, .bool false, .bool false, .bool false, .bool false]) (by kernel_rfl) (fun c => (show RepL c [.bool false, .bool false, .bool false, .bool false, .bool false, .bool false, .bool false, .bool false] [false, false, false, false, false, false, false, false] from ⟨[.bool false], [.bool false, .bool false, .bool false, .bool false, .bool false, .bool false, .bool false], rfl, rfl, ⟨[.bool false], [.bool false, .bool false, .bool false, .bool false, .bool false, .bool false], rfl, rfl, ⟨[.bool false], [.bool false, .bool false, .bool false, .bool false, .bool false], rfl, rfl, ⟨[.bool false], [.bool false, .bool false, .bool false, .bool false], rfl, rfl, ⟨[.bool false], [.bool false, .bool false, .bool false], rfl, rfl, ⟨[.bool false], [.bool false, .bool false], rfl, rfl, ⟨[.bool false], [.bool false], rfl, rfl, ⟨[.bool false], [], rfl, rfl, rfl⟩⟩⟩⟩⟩⟩⟩⟩))
theorem zi24 : ZeroIs Try.prog 24 ((0, [], []) : S_api_Market) := ZeroIs.mk' (cs := [.int .i64 0, .slice none 0 0, .slice none 0 0]) (by kernel_rfl) (fun c => ⟨[.int .i64 0], [.slice none 0 0, .slice none 0 0], rfl, rfl, ⟨[.slice none 0 0], [.slice none 0 0], rfl, (.inl ⟨none, 0, rfl, Nat.zero_le _, rfl⟩), (.inl ⟨none, 0, rfl, Nat.zero_le _, rfl⟩)⟩⟩)
theorem zi3 : ZeroIs Try.prog 3 (0 : Int) := ZeroIs.mk' (cs := [.int .i64 0]) (by kernel_rfl) (fun c => rfl)
theorem zi54 : ZeroIs Try.prog 54 (#v[0, 0] : Vector Int 2) := ZeroIs.mk' (cs := [.int .i64 0, .int .i64 0]) (by kernel_rfl) (fun c => (show RepL c [.int .i64 0, .int .i64 0] [0, 0] from ⟨[.int .i64 0], [.int .i64 0], rfl, rfl, ⟨[.int .i64 0], [], rfl, rfl, rfl⟩⟩))
theorem zi59 : ZeroIs Try.prog 59 ((0, 0, 0, 0) : S_api_Offer) := ZeroIs.mk' (cs := [.int .i64 0, .int .i64 0, .int .i64 0, .int .i64 0]) (by kernel_rfl) (fun c => ⟨[.int .i64 0], [.int .i64 0, .int .i64 0, .int .i64 0], rfl, rfl, ⟨[.int .i64 0], [.int .i64 0, .int .i64 0], rfl, rfl, ⟨[.int .i64 0], [.int .i64 0], rfl, rfl, rfl⟩⟩⟩)
theorem zi82 : ZeroIs Try.prog 82 ((0, 0) : S_api_Span) := ZeroIs.mk' (cs := [.int .i64 0, .int .i64 0]) (by kernel_rfl) (fun c => ⟨[.int .i64 0], [.int .i64 0], rfl, rfl, rfl⟩)
theorem zi97 : ZeroIs Try.prog 97 (((fun _ => none), ()) : S_keeper_want) := ZeroIs.mk' (cs := [.nilFunc]) (by kernel_rfl) (fun c => ⟨[.nilFunc], [], rfl, (.inl ⟨rfl, fun _ => rfl⟩), rfl⟩)
theorem za142 : ∀ w : World, (zeroValue 142).run Try.prog w = .ok (.agg #[.bool false, .bool false, .bool false, .bool false, .bool false, .bool false, .bool false, .bool false]) w := fun w => by kernel_rfl
theorem za54 : ∀ w : World, (zeroValue 54).run Try.prog w = .ok (.agg #[.int .i64 0, .int .i64 0]) w := fun w => by kernel_rfl
theorem za66 : ∀ w : World, (zeroValue 66).run Try.prog w = .ok (.agg #[.int .i64 0, .int .i64 0, .int .i64 0, .int .i64 0]) w := fun w => by kernel_rfl
theorem zv27 : (Try.prog.info? 27).map (·.zero) = some (some (.slice none 0 0)) := by kernel_rfl
theorem zv48 : (Try.prog.info? 48).map (·.zero) = some (some (.slice none 0 0)) := by kernel_rfl
theorem eq108 : EqP Try.prog 2 108 S_keeper_choice := EqP.struct rfl Try.underlying108 (by kernel_rfl) ⟨by decide, Bool, inferInstance, inferInstance, fun x => x.1, (fun x y => ((x.2.1 == y.2.1) && (x.2.2 == y.2.2))), ty4, (EqP.bool Try.underlying4), (fun c vs x h => by have := rep_fst h; exact this), ⟨by decide, Int, inferInstance, inferInstance, fun x => x.2.1, (fun x y => (x.2.2 == y.2.2)), ty3, (EqP.int Try.underlying3), (fun c vs x h => by have := rep_fst (rep_snd h); exact this), ⟨by decide, Int, inferInstance, inferInstance, fun x => x.2.2, (fun x y => true), ty99, (EqP.int Try.underlying99), (fun c vs x h => by have := rep_all (rep_snd (rep_snd h)); simp only [List.drop_drop] at this; exact this), fun _ _ => rfl, fun x y => by first | rfl | simp⟩, fun x y => by first | rfl | simp⟩, fun x y => by first | rfl | simp⟩
theorem eg108 : Try.prog.eqGuardType Try.prog.depth 108 = false := by kernel_rfl
theorem eq54 : EqP Try.prog 2 54 (Vector Int 2) := EqP.array ar54 (EqP.int Try.underlying3)
theorem eg54 : Try.prog.eqGuardType Try.prog.depth 54 = false := by kernel_rfl
theorem eq82 : EqP Try.prog 2 82 S_api_Span := EqP.struct rfl Try.underlying82 (by kernel_rfl) ⟨by decide, Int, inferInstance, inferInstance, fun x => x.1, (fun x y => (x.2 == y.2)), ty3, (EqP.int Try.underlying3), (fun c vs x h => by have := rep_fst h; exact this), ⟨by decide, Int, inferInstance, inferInstance, fun x => x.2, (fun x y => true), ty3, (EqP.int Try.underlying3), (fun c vs x h => by have := rep_all (rep_snd h); exact this), fun _ _ => rfl, fun x y => by first | rfl | simp⟩, fun x y => by first | rfl | simp⟩
theorem eg82 : Try.prog.eqGuardType Try.prog.depth 82 = false := by kernel_rfl
end Go.Proofs.Ytkbilbeaedocjaa
