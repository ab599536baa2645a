/-
  What is proved: facts on the types of the program that the walks use.
-/
import Derived.Test.YthogdhepjcomjaaGreatDoorChecked
import Derived.Test.YthogdhepjcomjaaGreatDoorBaseR
import Derived.Test.YthogdhepjcomjaaGreatDoorData
set_option maxRecDepth 100000
namespace Go.Proofs.YthogdhepjcomjaaGreatDoor
open Go Go.Proofs.YthogdhepjcomjaaGreatDoor.Wh

theorem mixed : Tryz.prog.follows .mixedOrders = true := Tryz.checked.mixed
instance enc34 : Enc ((List Int) → (List Int) → Option Bool) := Enc.single (fun c v f => (isFn Tryz.prog (X := (List Int) × (List Int)) (Y := Bool) (fun x => [isV x.1, isV x.2]) (fun y => isV y) (fun x => f x.1 x.2)).p ⟨c, c⟩ v) (fun hc h => (isFn Tryz.prog (X := (List Int) × (List Int)) (Y := Bool) (fun x => [isV x.1, isV x.2]) (fun y => isV y) _).mono ⟨hc, hc⟩ h) (fun h => isFn_one h)
instance enc51 : Enc (Int → Option Int) := Enc.single (fun c v f => (isFn Tryz.prog (X := Int) (Y := Int) (fun x => [isV x]) (fun y => isV y) (f)).p ⟨c, c⟩ v) (fun hc h => (isFn Tryz.prog (X := Int) (Y := Int) (fun x => [isV x]) (fun y => isV y) _).mono ⟨hc, hc⟩ h) (fun h => isFn_one h)
instance enc55 : Enc (Int → Option Bool) := Enc.single (fun c v f => (isFn Tryz.prog (X := Int) (Y := Bool) (fun x => [isV x]) (fun y => isV y) (f)).p ⟨c, c⟩ v) (fun hc h => (isFn Tryz.prog (X := Int) (Y := Bool) (fun x => [isV x]) (fun y => isV y) _).mono ⟨hc, hc⟩ h) (fun h => isFn_one h)
theorem od_fn55 {Γ : List (Nat × Pr)} {x : Operand} {f : (Int → Option Bool)} (h : Od Γ x (isV f)) : Od Γ x (isFn Tryz.prog (X := Int) (Y := Bool) (fun x => [isV x]) (fun y => isV y) (f)) := h
theorem mk_fn55 {Γ : List (Nat × Pr)} {ty : TypeId} {f : (Int → Option Bool)} {g : FuncId} {xs : Array Operand} {κs : List Pr} (hC : OnlyC κs) (he : Enters Tryz.prog g) (hx : OdL Γ xs.toList κs) (h : ∀ (x : Int) (y : Bool), (f : Int → Option Bool) x = some y → CallOK Tryz.prog g ((fun x => [isV x] : Int → List Pr) x ++ κs) ((fun y => isV y : Bool → Pr) y)) : StepP Tryz.prog (.makeFunc (.func g) #[] xs) ty Γ (isV f) :=
  sp_makeFunc (X := Int) (Y := Bool) (A := fun x => [isV x]) (R := fun y => isV y) (f := f) hC he hx h
theorem of_fn55 {Γ : List (Nat × Pr)} {f : (Int → Option Bool)} {g : FuncId} (he : Enters Tryz.prog g) (h : ∀ (x : Int) (y : Bool), (f : Int → Option Bool) x = some y → CallOK Tryz.prog g ((fun x => [isV x] : Int → List Pr) x) ((fun y => isV y : Bool → Pr) y)) : Od Γ (.func g) (isV f) :=
  odf (X := Int) (Y := Bool) (A := fun x => [isV x]) (R := fun y => isV y) (f := f) he h
instance enc85 : Enc ((List Int) → (List Int) → Option Int) := Enc.single (fun c v f => (isFn Tryz.prog (X := (List Int) × (List Int)) (Y := Int) (fun x => [isV x.1, isV x.2]) (fun y => isV y) (fun x => f x.1 x.2)).p ⟨c, c⟩ v) (fun hc h => (isFn Tryz.prog (X := (List Int) × (List Int)) (Y := Int) (fun x => [isV x.1, isV x.2]) (fun y => isV y) _).mono ⟨hc, hc⟩ h) (fun h => isFn_one h)
theorem od_fn85 {Γ : List (Nat × Pr)} {x : Operand} {f : ((List Int) → (List Int) → Option Int)} (h : Od Γ x (isV f)) : Od Γ x (isFn Tryz.prog (X := (List Int) × (List Int)) (Y := Int) (fun x => [isV x.1, isV x.2]) (fun y => isV y) (fun x => f x.1 x.2)) := h
theorem mk_fn85 {Γ : List (Nat × Pr)} {ty : TypeId} {f : ((List Int) → (List Int) → Option Int)} {g : FuncId} {xs : Array Operand} {κs : List Pr} (hC : OnlyC κs) (he : Enters Tryz.prog g) (hx : OdL Γ xs.toList κs) (h : ∀ (x : (List Int) × (List Int)) (y : Int), (fun x => f x.1 x.2 : ((List Int) × (List Int)) → Option Int) x = some y → CallOK Tryz.prog g ((fun x => [isV x.1, isV x.2] : ((List Int) × (List Int)) → List Pr) x ++ κs) ((fun y => isV y : Int → Pr) y)) : StepP Tryz.prog (.makeFunc (.func g) #[] xs) ty Γ (isV f) :=
  sp_makeFunc (X := (List Int) × (List Int)) (Y := Int) (A := fun x => [isV x.1, isV x.2]) (R := fun y => isV y) (f := fun x => f x.1 x.2) hC he hx h
instance enc137 : Enc (S_watch_lag → Option Bool) := Enc.single (fun c v f => (isFn Tryz.prog (X := S_watch_lag) (Y := Bool) (fun x => [isV x]) (fun y => isV y) (f)).p ⟨c, c⟩ v) (fun hc h => (isFn Tryz.prog (X := S_watch_lag) (Y := Bool) (fun x => [isV x]) (fun y => isV y) _).mono ⟨hc, hc⟩ h) (fun h => isFn_one h)
theorem od_fn137 {Γ : List (Nat × Pr)} {x : Operand} {f : (S_watch_lag → Option Bool)} (h : Od Γ x (isV f)) : Od Γ x (isFn Tryz.prog (X := S_watch_lag) (Y := Bool) (fun x => [isV x]) (fun y => isV y) (f)) := h
theorem mk_fn137 {Γ : List (Nat × Pr)} {ty : TypeId} {f : (S_watch_lag → Option Bool)} {g : FuncId} {xs : Array Operand} {κs : List Pr} (hC : OnlyC κs) (he : Enters Tryz.prog g) (hx : OdL Γ xs.toList κs) (h : ∀ (x : S_watch_lag) (y : Bool), (f : S_watch_lag → Option Bool) x = some y → CallOK Tryz.prog g ((fun x => [isV x] : S_watch_lag → List Pr) x ++ κs) ((fun y => isV y : Bool → Pr) y)) : StepP Tryz.prog (.makeFunc (.func g) #[] xs) ty Γ (isV f) :=
  sp_makeFunc (X := S_watch_lag) (Y := Bool) (A := fun x => [isV x]) (R := fun y => isV y) (f := f) hC he hx h
theorem of_fn137 {Γ : List (Nat × Pr)} {f : (S_watch_lag → Option Bool)} {g : FuncId} (he : Enters Tryz.prog g) (h : ∀ (x : S_watch_lag) (y : Bool), (f : S_watch_lag → Option Bool) x = some y → CallOK Tryz.prog g ((fun x => [isV x] : S_watch_lag → List Pr) x) ((fun y => isV y : Bool → Pr) y)) : Od Γ (.func g) (isV f) :=
  odf (X := S_watch_lag) (Y := Bool) (A := fun x => [isV x]) (R := fun y => isV y) (f := f) he h
theorem ty3 : TyP Tryz.prog 3 Int := TyP.mk' Tryz.underlying3 rfl (by kernel_rfl)
theorem ty4 : TyP Tryz.prog 4 Bool := TyP.mk' Tryz.underlying4 rfl (by kernel_rfl)
theorem ty9 : TyP Tryz.prog 9 ByteArray := TyP.mk' Tryz.underlying9 rfl (by kernel_rfl)
theorem ty22 : TyP Tryz.prog 22 (List (List Int)) := TyP.mk' Tryz.underlying22 rfl (by kernel_rfl)
theorem ty23 : TyP Tryz.prog 23 (List S_api_Turn) := TyP.mk' Tryz.underlying23 rfl (by kernel_rfl)
theorem ty25 : TyP Tryz.prog 25 S_api_Roster := TyP.mk' Tryz.underlying25 rfl (by kernel_rfl)
theorem ty26 : TyP Tryz.prog 26 (List Int) := TyP.mk' Tryz.underlying26 rfl (by kernel_rfl)
theorem ty45 : TyP Tryz.prog 45 S_api_Turn := TyP.mk' Tryz.underlying45 rfl (by kernel_rfl)
theorem ty55 : TyP Tryz.prog 55 (Int → Option Bool) := TyP.mk' Tryz.underlying55 rfl (by kernel_rfl)
theorem ty85 : TyP Tryz.prog 85 ((List Int) → (List Int) → Option Int) := TyP.mk' Tryz.underlying85 rfl (by kernel_rfl)
theorem ty95 : TyP Tryz.prog 95 S_watch_lag := TyP.mk' Tryz.underlying95 rfl (by kernel_rfl)
theorem ty100 : TyP Tryz.prog 100 S_watch_bounds := TyP.mk' Tryz.underlying100 rfl (by kernel_rfl)
theorem ty111 : TyP Tryz.prog 111 (Vector Int 8) := TyP.mk' Tryz.underlying111 rfl (by kernel_rfl)
theorem ty113 : TyP Tryz.prog 113 (Vector (Vector Int 8) 8) := TyP.mk' Tryz.underlying113 rfl (by kernel_rfl)
theorem ty135 : TyP Tryz.prog 135 (List S_watch_lag) := TyP.mk' Tryz.underlying135 rfl (by kernel_rfl)
theorem ty137 : TyP Tryz.prog 137 (S_watch_lag → Option Bool) := TyP.mk' Tryz.underlying137 rfl (by kernel_rfl)
theorem ty100026 : TyP Tryz.prog 26 (NL Int) := TyP.mk' Tryz.underlying26 rfl (by kernel_rfl)
theorem sl22 : SlP Tryz.prog 22 26 (List Int) := ⟨Tryz.underlying22, ty26⟩
theorem sl23 : SlP Tryz.prog 23 45 S_api_Turn := ⟨Tryz.underlying23, ty45⟩
theorem sl26 : SlP Tryz.prog 26 3 Int := ⟨Tryz.underlying26, ty3⟩
theorem sl118 : SlP Tryz.prog 118 9 ByteArray := ⟨Tryz.underlying118, ty9⟩
theorem sl135 : SlP Tryz.prog 135 95 S_watch_lag := ⟨Tryz.underlying135, ty95⟩
theorem sl100022 : SlP Tryz.prog 22 26 (NL Int) := ⟨Tryz.underlying22, ty100026⟩
theorem fd25_0 : FieldP Tryz.prog 25 0 (fun x : S_api_Roster => x.1) := FieldP.mk' Tryz.underlying25 rfl (by kernel_rfl) rfl fun c vs x h => by have := rep_fst h; exact this
theorem fd25_1 : FieldP Tryz.prog 25 1 (fun x : S_api_Roster => x.2.1) := FieldP.mk' Tryz.underlying25 rfl (by kernel_rfl) rfl fun c vs x h => by have := rep_fst (rep_snd h); exact this
theorem fd25_2 : FieldP Tryz.prog 25 2 (fun x : S_api_Roster => x.2.2.1) := FieldP.mk' Tryz.underlying25 rfl (by kernel_rfl) rfl fun c vs x h => by have := rep_fst (rep_snd (rep_snd h)); simp only [List.drop_drop] at this; exact this
theorem fd25_3 : FieldP Tryz.prog 25 3 (fun x : S_api_Roster => x.2.2.2.1) := FieldP.mk' Tryz.underlying25 rfl (by kernel_rfl) rfl fun c vs x h => by have := rep_fst (rep_snd (rep_snd (rep_snd h))); simp only [List.drop_drop] at this; exact this
theorem fd25_4 : FieldP Tryz.prog 25 4 (fun x : S_api_Roster => x.2.2.2.2) := FieldP.mk' Tryz.underlying25 rfl (by kernel_rfl) rfl fun c vs x h => by have := rep_all (rep_snd (rep_snd (rep_snd (rep_snd h)))); simp only [List.drop_drop] at this; exact this
theorem fd45_0 : FieldP Tryz.prog 45 0 (fun x : S_api_Turn => x.1) := FieldP.mk' Tryz.underlying45 rfl (by kernel_rfl) rfl fun c vs x h => by have := rep_fst h; exact this
theorem fd45_1 : FieldP Tryz.prog 45 1 (fun x : S_api_Turn => x.2.1) := FieldP.mk' Tryz.underlying45 rfl (by kernel_rfl) rfl fun c vs x h => by have := rep_fst (rep_snd h); exact this
theorem fd45_2 : FieldP Tryz.prog 45 2 (fun x : S_api_Turn => x.2.2.1) := FieldP.mk' Tryz.underlying45 rfl (by kernel_rfl) rfl fun c vs x h => by have := rep_fst (rep_snd (rep_snd h)); simp only [List.drop_drop] at this; exact this
theorem fd45_3 : FieldP Tryz.prog 45 3 (fun x : S_api_Turn => x.2.2.2.1) := FieldP.mk' Tryz.underlying45 rfl (by kernel_rfl) rfl fun c vs x h => by have := rep_fst (rep_snd (rep_snd (rep_snd h))); simp only [List.drop_drop] at this; exact this
theorem fd45_4 : FieldP Tryz.prog 45 4 (fun x : S_api_Turn => x.2.2.2.2.1) := FieldP.mk' Tryz.underlying45 rfl (by kernel_rfl) rfl fun c vs x h => by have := rep_fst (rep_snd (rep_snd (rep_snd (rep_snd h)))); simp only [List.drop_drop] at this; exact this
theorem fd45_5 : FieldP Tryz.prog 45 5 (fun x : S_api_Turn => x.2.2.2.2.2) := FieldP.mk' Tryz.underlying45 rfl (by kernel_rfl) rfl fun c vs x h => by have := rep_all (rep_snd (rep_snd (rep_snd (rep_snd (rep_snd h))))); simp only [List.drop_drop] at this; exact this
theorem fd95_0 : FieldP Tryz.prog 95 0 (fun x : S_watch_lag => x.1) := FieldP.mk' Tryz.underlying95 rfl (by kernel_rfl) rfl fun c vs x h => by have := rep_fst h; exact this
theorem fd95_1 : FieldP Tryz.prog 95 1 (fun x : S_watch_lag => x.2) := FieldP.mk' Tryz.underlying95 rfl (by kernel_rfl) rfl fun c vs x h => by have := rep_all (rep_snd h); exact this
theorem fd100_0 : FieldP Tryz.prog 100 0 (fun x : S_watch_bounds => x.1) := FieldP.mk' Tryz.underlying100 rfl (by kernel_rfl) rfl fun c vs x h => by have := rep_fst h; exact this
theorem fd100_1 : FieldP Tryz.prog 100 1 (fun x : S_watch_bounds => x.2) := FieldP.mk' Tryz.underlying100 rfl (by kernel_rfl) rfl fun c vs x h => by have := rep_all (rep_snd h); exact this
theorem en16 : Enters Tryz.prog 16 := enters_of Tryz.func16 (by kernel_rfl) rfl
theorem en17 : Enters Tryz.prog 17 := enters_of Tryz.func17 (by kernel_rfl) rfl
theorem en18 : Enters Tryz.prog 18 := enters_of Tryz.func18 (by kernel_rfl) rfl
theorem en20 : Enters Tryz.prog 20 := enters_of Tryz.func20 (by kernel_rfl) rfl
theorem en22 : Enters Tryz.prog 22 := enters_of Tryz.func22 (by kernel_rfl) rfl
theorem en24 : Enters Tryz.prog 24 := enters_of Tryz.func24 (by kernel_rfl) rfl
theorem en25 : Enters Tryz.prog 25 := enters_of Tryz.func25 (by kernel_rfl) rfl
theorem en27 : Enters Tryz.prog 27 := enters_of Tryz.func27 (by kernel_rfl) rfl
theorem en29 : Enters Tryz.prog 29 := enters_of Tryz.func29 (by kernel_rfl) rfl
theorem en32 : Enters Tryz.prog 32 := enters_of Tryz.func32 (by kernel_rfl) rfl
theorem en33 : Enters Tryz.prog 33 := enters_of Tryz.func33 (by kernel_rfl) rfl
theorem en34 : Enters Tryz.prog 34 := enters_of Tryz.func34 (by kernel_rfl) rfl
theorem en35 : Enters Tryz.prog 35 := enters_of Tryz.func35 (by kernel_rfl) rfl
theorem en36 : Enters Tryz.prog 36 := enters_of Tryz.func36 (by kernel_rfl) rfl
theorem en37 : Enters Tryz.prog 37 := enters_of Tryz.func37 (by kernel_rfl) rfl
theorem en38 : Enters Tryz.prog 38 := enters_of Tryz.func38 (by kernel_rfl) rfl
theorem en40 : Enters Tryz.prog 40 := enters_of Tryz.func40 (by kernel_rfl) rfl
theorem en42 : Enters Tryz.prog 42 := enters_of Tryz.func42 (by kernel_rfl) rfl
theorem en44 : Enters Tryz.prog 44 := enters_of Tryz.func44 (by kernel_rfl) rfl
theorem en45 : Enters Tryz.prog 45 := enters_of Tryz.func45 (by kernel_rfl) rfl
theorem en47 : Enters Tryz.prog 47 := enters_of Tryz.func47 (by kernel_rfl) rfl
theorem en53 : Enters Tryz.prog 53 := enters_of Tryz.func53 (by kernel_rfl) rfl
theorem en55 : Enters Tryz.prog 55 := enters_of Tryz.func55 (by kernel_rfl) rfl
theorem en57 : Enters Tryz.prog 57 := enters_of Tryz.func57 (by kernel_rfl) rfl
theorem en59 : Enters Tryz.prog 59 := enters_of Tryz.func59 (by kernel_rfl) rfl
theorem en60 : Enters Tryz.prog 60 := enters_of Tryz.func60 (by kernel_rfl) rfl
theorem en61 : Enters Tryz.prog 61 := enters_of Tryz.func61 (by kernel_rfl) rfl
theorem en62 : Enters Tryz.prog 62 := enters_of Tryz.func62 (by kernel_rfl) rfl
theorem en63 : Enters Tryz.prog 63 := enters_of Tryz.func63 (by kernel_rfl) rfl
theorem en64 : Enters Tryz.prog 64 := enters_of Tryz.func64 (by kernel_rfl) rfl
theorem en71 : Enters Tryz.prog 71 := enters_of Tryz.func71 (by kernel_rfl) rfl
theorem en72 : Enters Tryz.prog 72 := enters_of Tryz.func72 (by kernel_rfl) rfl
theorem en73 : Enters Tryz.prog 73 := enters_of Tryz.func73 (by kernel_rfl) rfl
theorem en74 : Enters Tryz.prog 74 := enters_of Tryz.func74 (by kernel_rfl) rfl
theorem en77 : Enters Tryz.prog 77 := enters_of Tryz.func77 (by kernel_rfl) rfl
theorem en79 : Enters Tryz.prog 79 := enters_of Tryz.func79 (by kernel_rfl) rfl
theorem en80 : Enters Tryz.prog 80 := enters_of Tryz.func80 (by kernel_rfl) rfl
theorem en81 : Enters Tryz.prog 81 := enters_of Tryz.func81 (by kernel_rfl) rfl
theorem en82 : Enters Tryz.prog 82 := enters_of Tryz.func82 (by kernel_rfl) rfl
theorem en85 : Enters Tryz.prog 85 := enters_of Tryz.func85 (by kernel_rfl) rfl
theorem en86 : Enters Tryz.prog 86 := enters_of Tryz.func86 (by kernel_rfl) rfl
theorem en87 : Enters Tryz.prog 87 := enters_of Tryz.func87 (by kernel_rfl) rfl
theorem en88 : Enters Tryz.prog 88 := enters_of Tryz.func88 (by kernel_rfl) rfl
theorem en89 : Enters Tryz.prog 89 := enters_of Tryz.func89 (by kernel_rfl) rfl
theorem en90 : Enters Tryz.prog 90 := enters_of Tryz.func90 (by kernel_rfl) rfl
theorem en91 : Enters Tryz.prog 91 := enters_of Tryz.func91 (by kernel_rfl) rfl
theorem en92 : Enters Tryz.prog 92 := enters_of Tryz.func92 (by kernel_rfl) rfl
theorem en93 : Enters Tryz.prog 93 := enters_of Tryz.func93 (by kernel_rfl) rfl
theorem en94 : Enters Tryz.prog 94 := enters_of Tryz.func94 (by kernel_rfl) rfl
theorem en95 : Enters Tryz.prog 95 := enters_of Tryz.func95 (by kernel_rfl) rfl
theorem en99 : Enters Tryz.prog 99 := enters_of Tryz.func99 (by kernel_rfl) rfl
theorem en100 : Enters Tryz.prog 100 := enters_of Tryz.func100 (by kernel_rfl) rfl
theorem en101 : Enters Tryz.prog 101 := enters_of Tryz.func101 (by kernel_rfl) rfl
theorem en102 : Enters Tryz.prog 102 := enters_of Tryz.func102 (by kernel_rfl) rfl
theorem en103 : Enters Tryz.prog 103 := enters_of Tryz.func103 (by kernel_rfl) rfl
theorem en104 : Enters Tryz.prog 104 := enters_of Tryz.func104 (by kernel_rfl) rfl
theorem en105 : Enters Tryz.prog 105 := enters_of Tryz.func105 (by kernel_rfl) rfl
theorem en106 : Enters Tryz.prog 106 := enters_of Tryz.func106 (by kernel_rfl) rfl
theorem en112 : Enters Tryz.prog 112 := enters_of Tryz.func112 (by kernel_rfl) rfl
theorem en113 : Enters Tryz.prog 113 := enters_of Tryz.func113 (by kernel_rfl) rfl
theorem en114 : Enters Tryz.prog 114 := enters_of Tryz.func114 (by kernel_rfl) rfl
theorem en115 : Enters Tryz.prog 115 := enters_of Tryz.func115 (by kernel_rfl) rfl
theorem en116 : Enters Tryz.prog 116 := enters_of Tryz.func116 (by kernel_rfl) rfl
theorem en117 : Enters Tryz.prog 117 := enters_of Tryz.func117 (by kernel_rfl) rfl
theorem en118 : Enters Tryz.prog 118 := enters_of Tryz.func118 (by kernel_rfl) rfl
theorem en119 : Enters Tryz.prog 119 := enters_of Tryz.func119 (by kernel_rfl) rfl
theorem en120 : Enters Tryz.prog 120 := enters_of Tryz.func120 (by kernel_rfl) rfl
theorem en121 : Enters Tryz.prog 121 := enters_of Tryz.func121 (by kernel_rfl) rfl
theorem en122 : Enters Tryz.prog 122 := enters_of Tryz.func122 (by kernel_rfl) rfl
theorem en123 : Enters Tryz.prog 123 := enters_of Tryz.func123 (by kernel_rfl) rfl
theorem en125 : Enters Tryz.prog 125 := enters_of Tryz.func125 (by kernel_rfl) rfl
theorem en127 : Enters Tryz.prog 127 := enters_of Tryz.func127 (by kernel_rfl) rfl
theorem en128 : Enters Tryz.prog 128 := enters_of Tryz.func128 (by kernel_rfl) rfl
theorem en130 : Enters Tryz.prog 130 := enters_of Tryz.func130 (by kernel_rfl) rfl
theorem en131 : Enters Tryz.prog 131 := enters_of Tryz.func131 (by kernel_rfl) rfl
theorem en132 : Enters Tryz.prog 132 := enters_of Tryz.func132 (by kernel_rfl) rfl
theorem en133 : Enters Tryz.prog 133 := enters_of Tryz.func133 (by kernel_rfl) rfl
theorem en134 : Enters Tryz.prog 134 := enters_of Tryz.func134 (by kernel_rfl) rfl
theorem en135 : Enters Tryz.prog 135 := enters_of Tryz.func135 (by kernel_rfl) rfl
theorem en137 : Enters Tryz.prog 137 := enters_of Tryz.func137 (by kernel_rfl) rfl
theorem en140 : Enters Tryz.prog 140 := enters_of Tryz.func140 (by kernel_rfl) rfl
theorem en141 : Enters Tryz.prog 141 := enters_of Tryz.func141 (by kernel_rfl) rfl
theorem en142 : Enters Tryz.prog 142 := enters_of Tryz.func142 (by kernel_rfl) rfl
theorem en143 : Enters Tryz.prog 143 := enters_of Tryz.func143 (by kernel_rfl) rfl
theorem en144 : Enters Tryz.prog 144 := enters_of Tryz.func144 (by kernel_rfl) rfl
theorem en145 : Enters Tryz.prog 145 := enters_of Tryz.func145 (by kernel_rfl) rfl
theorem en146 : Enters Tryz.prog 146 := enters_of Tryz.func146 (by kernel_rfl) rfl
theorem en147 : Enters Tryz.prog 147 := enters_of Tryz.func147 (by kernel_rfl) rfl
theorem en148 : Enters Tryz.prog 148 := enters_of Tryz.func148 (by kernel_rfl) rfl
theorem en149 : Enters Tryz.prog 149 := enters_of Tryz.func149 (by kernel_rfl) rfl
theorem en150 : Enters Tryz.prog 150 := enters_of Tryz.func150 (by kernel_rfl) rfl
theorem en152 : Enters Tryz.prog 152 := enters_of Tryz.func152 (by kernel_rfl) rfl
theorem en153 : Enters Tryz.prog 153 := enters_of Tryz.func153 (by kernel_rfl) rfl
theorem en154 : Enters Tryz.prog 154 := enters_of Tryz.func154 (by kernel_rfl) rfl
theorem en155 : Enters Tryz.prog 155 := enters_of Tryz.func155 (by kernel_rfl) rfl
theorem en156 : Enters Tryz.prog 156 := enters_of Tryz.func156 (by kernel_rfl) rfl
theorem en157 : Enters Tryz.prog 157 := enters_of Tryz.func157 (by kernel_rfl) rfl
theorem en162 : Enters Tryz.prog 162 := enters_of Tryz.func162 (by kernel_rfl) rfl
theorem en165 : Enters Tryz.prog 165 := enters_of Tryz.func165 (by kernel_rfl) rfl
theorem en166 : Enters Tryz.prog 166 := enters_of Tryz.func166 (by kernel_rfl) rfl
theorem en170 : Enters Tryz.prog 170 := enters_of Tryz.func170 (by kernel_rfl) rfl
theorem ar111 : ArP Tryz.prog 111 3 8 Int := ⟨Tryz.underlying111, ty3, rfl⟩
theorem ar113 : ArP Tryz.prog 113 111 8 (Vector Int 8) := ⟨Tryz.underlying113, ty111, rfl⟩
theorem bd25_ {Γ : List (Nat × Pr)} {ty : TypeId}   : StepP Tryz.prog (.build 25 #[]) ty Γ (isV ((0, 0, 0, [], []) : S_api_Roster)) :=
  step_pure fun c w a hc hm => by
    refine ⟨.agg #[.int .i64 0, .int .i64 0, .int .i64 0, .slice none 0 0, .slice none 0 0], ?_, [.int .i64 0, .int .i64 0, .int .i64 0, .slice none 0 0, .slice none 0 0], rfl, ⟨[.int .i64 0], [.int .i64 0, .int .i64 0, .slice none 0 0, .slice none 0 0], rfl, rfl, ⟨[.int .i64 0], [.int .i64 0, .slice none 0 0, .slice none 0 0], rfl, rfl, ⟨[.int .i64 0], [.slice none 0 0, .slice none 0 0], rfl, rfl, ⟨[.slice none 0 0], [.slice none 0 0], rfl, (.inl ⟨none, 0, rfl, Nat.zero_le _, rfl⟩), (.inl ⟨none, 0, rfl, Nat.zero_le _, rfl⟩)⟩⟩⟩⟩⟩
    have zr : (zeroValue 25).run Tryz.prog w = .ok (.agg #[.int .i64 0, .int .i64 0, .int .i64 0, .slice none 0 0, .slice none 0 0]) w := by kernel_rfl
    have si3 : (sizeOf 3).run Tryz.prog w = .ok 1 w := by kernel_rfl
    have si22 : (sizeOf 22).run Tryz.prog w = .ok 1 w := by kernel_rfl
    have si23 : (sizeOf 23).run Tryz.prog w = .ok 1 w := by kernel_rfl
    have zq : (Value.agg #[.int .i64 0, .int .i64 0, .int .i64 0, .slice none 0 0, .slice none 0 0]).cells = #[.int .i64 0, .int .i64 0, .int .i64 0, .slice none 0 0, .slice none 0 0] := rfl
    simp [execOp, plain, Instr.build, zr, run_underlying Tryz.underlying25, zq, Instr.fill]
theorem bd25_01234 {Γ : List (Nat × Pr)} {ty : TypeId} {x0 : Int} {o0 : Operand} {x1 : Int} {o1 : Operand} {x2 : Int} {o2 : Operand} {x3 : List (List Int)} {o3 : Operand} {x4 : List S_api_Turn} {o4 : Operand} (h0 : Od Γ o0 (isV x0)) (h1 : Od Γ o1 (isV x1)) (h2 : Od Γ o2 (isV x2)) (h3 : Od Γ o3 (isV x3)) (h4 : Od Γ o4 (isV x4)) : StepP Tryz.prog (.build 25 #[(0, o0), (1, o1), (2, o2), (3, o3), (4, o4)]) ty Γ (isV ((x0, x1, x2, x3, x4) : S_api_Roster)) :=
  step_pure fun c w a hc hm => by
    have g0 := h0.get hm (by simp [Op.operands])
    have c0 := cells_one (α := Int) rfl g0
    have g1 := h1.get hm (by simp [Op.operands])
    have c1 := cells_one (α := Int) rfl g1
    have g2 := h2.get hm (by simp [Op.operands])
    have c2 := cells_one (α := Int) rfl g2
    have g3 := h3.get hm (by simp [Op.operands])
    have c3 := cells_one (α := List (List Int)) rfl g3
    have g4 := h4.get hm (by simp [Op.operands])
    have c4 := cells_one (α := List S_api_Turn) rfl g4
    refine ⟨.agg #[a.eval o0, a.eval o1, a.eval o2, a.eval o3, a.eval o4], ?_, [a.eval o0, a.eval o1, a.eval o2, a.eval o3, a.eval o4], rfl, ⟨[a.eval o0], [a.eval o1, a.eval o2, a.eval o3, a.eval o4], rfl, g0, ⟨[a.eval o1], [a.eval o2, a.eval o3, a.eval o4], rfl, g1, ⟨[a.eval o2], [a.eval o3, a.eval o4], rfl, g2, ⟨[a.eval o3], [a.eval o4], rfl, g3, g4⟩⟩⟩⟩⟩
    have zr : (zeroValue 25).run Tryz.prog w = .ok (.agg #[.int .i64 0, .int .i64 0, .int .i64 0, .slice none 0 0, .slice none 0 0]) w := by kernel_rfl
    have si3 : (sizeOf 3).run Tryz.prog w = .ok 1 w := by kernel_rfl
    have si22 : (sizeOf 22).run Tryz.prog w = .ok 1 w := by kernel_rfl
    have si23 : (sizeOf 23).run Tryz.prog w = .ok 1 w := by kernel_rfl
    have zq : (Value.agg #[.int .i64 0, .int .i64 0, .int .i64 0, .slice none 0 0, .slice none 0 0]).cells = #[.int .i64 0, .int .i64 0, .int .i64 0, .slice none 0 0, .slice none 0 0] := rfl
    simp [execOp, plain, Instr.build, zr, run_underlying Tryz.underlying25, zq, Instr.fill, c0, c1, c2, c3, c4]
theorem bd45_12345 {Γ : List (Nat × Pr)} {ty : TypeId} {x1 : Int} {o1 : Operand} {x2 : Int} {o2 : Operand} {x3 : Int} {o3 : Operand} {x4 : Int} {o4 : Operand} {x5 : Int} {o5 : Operand} (h1 : Od Γ o1 (isV x1)) (h2 : Od Γ o2 (isV x2)) (h3 : Od Γ o3 (isV x3)) (h4 : Od Γ o4 (isV x4)) (h5 : Od Γ o5 (isV x5)) : StepP Tryz.prog (.build 45 #[(1, o1), (2, o2), (3, o3), (4, o4), (5, o5)]) ty Γ (isV ((0, x1, x2, x3, x4, x5) : S_api_Turn)) :=
  step_pure fun c w a hc hm => by
    have g1 := h1.get hm (by simp [Op.operands])
    have c1 := cells_one (α := Int) rfl g1
    have g2 := h2.get hm (by simp [Op.operands])
    have c2 := cells_one (α := Int) rfl g2
    have g3 := h3.get hm (by simp [Op.operands])
    have c3 := cells_one (α := Int) rfl g3
    have g4 := h4.get hm (by simp [Op.operands])
    have c4 := cells_one (α := Int) rfl g4
    have g5 := h5.get hm (by simp [Op.operands])
    have c5 := cells_one (α := Int) rfl g5
    refine ⟨.agg #[.int .i64 0, a.eval o1, a.eval o2, a.eval o3, a.eval o4, a.eval o5], ?_, [.int .i64 0, a.eval o1, a.eval o2, a.eval o3, a.eval o4, a.eval o5], rfl, ⟨[.int .i64 0], [a.eval o1, a.eval o2, a.eval o3, a.eval o4, a.eval o5], rfl, rfl, ⟨[a.eval o1], [a.eval o2, a.eval o3, a.eval o4, a.eval o5], rfl, g1, ⟨[a.eval o2], [a.eval o3, a.eval o4, a.eval o5], rfl, g2, ⟨[a.eval o3], [a.eval o4, a.eval o5], rfl, g3, ⟨[a.eval o4], [a.eval o5], rfl, g4, g5⟩⟩⟩⟩⟩⟩
    have zr : (zeroValue 45).run Tryz.prog w = .ok (.agg #[.int .i64 0, .int .i64 0, .int .i64 0, .int .i64 0, .int .i64 0, .int .i64 0]) w := by kernel_rfl
    have si3 : (sizeOf 3).run Tryz.prog w = .ok 1 w := by kernel_rfl
    have zq : (Value.agg #[.int .i64 0, .int .i64 0, .int .i64 0, .int .i64 0, .int .i64 0, .int .i64 0]).cells = #[.int .i64 0, .int .i64 0, .int .i64 0, .int .i64 0, .int .i64 0, .int .i64 0] := rfl
    simp [execOp, plain, Instr.build, zr, run_underlying Tryz.underlying45, zq, Instr.fill, c1, c2, c3, c4, c5]
theorem bd45_1245 {Γ : List (Nat × Pr)} {ty : TypeId} {x1 : Int} {o1 : Operand} {x2 : Int} {o2 : Operand} {x4 : Int} {o4 : Operand} {x5 : Int} {o5 : Operand} (h1 : Od Γ o1 (isV x1)) (h2 : Od Γ o2 (isV x2)) (h4 : Od Γ o4 (isV x4)) (h5 : Od Γ o5 (isV x5)) : StepP Tryz.prog (.build 45 #[(1, o1), (2, o2), (4, o4), (5, o5)]) ty Γ (isV ((0, x1, x2, 0, x4, x5) : S_api_Turn)) :=
  step_pure fun c w a hc hm => by
    have g1 := h1.get hm (by simp [Op.operands])
    have c1 := cells_one (α := Int) rfl g1
    have g2 := h2.get hm (by simp [Op.operands])
    have c2 := cells_one (α := Int) rfl g2
    have g4 := h4.get hm (by simp [Op.operands])
    have c4 := cells_one (α := Int) rfl g4
    have g5 := h5.get hm (by simp [Op.operands])
    have c5 := cells_one (α := Int) rfl g5
    refine ⟨.agg #[.int .i64 0, a.eval o1, a.eval o2, .int .i64 0, a.eval o4, a.eval o5], ?_, [.int .i64 0, a.eval o1, a.eval o2, .int .i64 0, a.eval o4, a.eval o5], rfl, ⟨[.int .i64 0], [a.eval o1, a.eval o2, .int .i64 0, a.eval o4, a.eval o5], rfl, rfl, ⟨[a.eval o1], [a.eval o2, .int .i64 0, a.eval o4, a.eval o5], rfl, g1, ⟨[a.eval o2], [.int .i64 0, a.eval o4, a.eval o5], rfl, g2, ⟨[.int .i64 0], [a.eval o4, a.eval o5], rfl, rfl, ⟨[a.eval o4], [a.eval o5], rfl, g4, g5⟩⟩⟩⟩⟩⟩
    have zr : (zeroValue 45).run Tryz.prog w = .ok (.agg #[.int .i64 0, .int .i64 0, .int .i64 0, .int .i64 0, .int .i64 0, .int .i64 0]) w := by kernel_rfl
    have si3 : (sizeOf 3).run Tryz.prog w = .ok 1 w := by kernel_rfl
    have zq : (Value.agg #[.int .i64 0, .int .i64 0, .int .i64 0, .int .i64 0, .int .i64 0, .int .i64 0]).cells = #[.int .i64 0, .int .i64 0, .int .i64 0, .int .i64 0, .int .i64 0, .int .i64 0] := rfl
    simp [execOp, plain, Instr.build, zr, run_underlying Tryz.underlying45, zq, Instr.fill, c1, c2, c4, c5]
theorem bd45_2345 {Γ : List (Nat × Pr)} {ty : TypeId} {x2 : Int} {o2 : Operand} {x3 : Int} {o3 : Operand} {x4 : Int} {o4 : Operand} {x5 : Int} {o5 : Operand} (h2 : Od Γ o2 (isV x2)) (h3 : Od Γ o3 (isV x3)) (h4 : Od Γ o4 (isV x4)) (h5 : Od Γ o5 (isV x5)) : StepP Tryz.prog (.build 45 #[(2, o2), (3, o3), (4, o4), (5, o5)]) ty Γ (isV ((0, 0, x2, x3, x4, x5) : S_api_Turn)) :=
  step_pure fun c w a hc hm => by
    have g2 := h2.get hm (by simp [Op.operands])
    have c2 := cells_one (α := Int) rfl g2
    have g3 := h3.get hm (by simp [Op.operands])
    have c3 := cells_one (α := Int) rfl g3
    have g4 := h4.get hm (by simp [Op.operands])
    have c4 := cells_one (α := Int) rfl g4
    have g5 := h5.get hm (by simp [Op.operands])
    have c5 := cells_one (α := Int) rfl g5
    refine ⟨.agg #[.int .i64 0, .int .i64 0, a.eval o2, a.eval o3, a.eval o4, a.eval o5], ?_, [.int .i64 0, .int .i64 0, a.eval o2, a.eval o3, a.eval o4, a.eval o5], rfl, ⟨[.int .i64 0], [.int .i64 0, a.eval o2, a.eval o3, a.eval o4, a.eval o5], rfl, rfl, ⟨[.int .i64 0], [a.eval o2, a.eval o3, a.eval o4, a.eval o5], rfl, rfl, ⟨[a.eval o2], [a.eval o3, a.eval o4, a.eval o5], rfl, g2, ⟨[a.eval o3], [a.eval o4, a.eval o5], rfl, g3, ⟨[a.eval o4], [a.eval o5], rfl, g4, g5⟩⟩⟩⟩⟩⟩
    have zr : (zeroValue 45).run Tryz.prog w = .ok (.agg #[.int .i64 0, .int .i64 0, .int .i64 0, .int .i64 0, .int .i64 0, .int .i64 0]) w := by kernel_rfl
    have si3 : (sizeOf 3).run Tryz.prog w = .ok 1 w := by kernel_rfl
    have zq : (Value.agg #[.int .i64 0, .int .i64 0, .int .i64 0, .int .i64 0, .int .i64 0, .int .i64 0]).cells = #[.int .i64 0, .int .i64 0, .int .i64 0, .int .i64 0, .int .i64 0, .int .i64 0] := rfl
    simp [execOp, plain, Instr.build, zr, run_underlying Tryz.underlying45, zq, Instr.fill, c2, c3, c4, c5]
theorem bd45_245 {Γ : List (Nat × Pr)} {ty : TypeId} {x2 : Int} {o2 : Operand} {x4 : Int} {o4 : Operand} {x5 : Int} {o5 : Operand} (h2 : Od Γ o2 (isV x2)) (h4 : Od Γ o4 (isV x4)) (h5 : Od Γ o5 (isV x5)) : StepP Tryz.prog (.build 45 #[(2, o2), (4, o4), (5, o5)]) ty Γ (isV ((0, 0, x2, 0, x4, x5) : S_api_Turn)) :=
  step_pure fun c w a hc hm => by
    have g2 := h2.get hm (by simp [Op.operands])
    have c2 := cells_one (α := Int) rfl g2
    have g4 := h4.get hm (by simp [Op.operands])
    have c4 := cells_one (α := Int) rfl g4
    have g5 := h5.get hm (by simp [Op.operands])
    have c5 := cells_one (α := Int) rfl g5
    refine ⟨.agg #[.int .i64 0, .int .i64 0, a.eval o2, .int .i64 0, a.eval o4, a.eval o5], ?_, [.int .i64 0, .int .i64 0, a.eval o2, .int .i64 0, a.eval o4, a.eval o5], rfl, ⟨[.int .i64 0], [.int .i64 0, a.eval o2, .int .i64 0, a.eval o4, a.eval o5], rfl, rfl, ⟨[.int .i64 0], [a.eval o2, .int .i64 0, a.eval o4, a.eval o5], rfl, rfl, ⟨[a.eval o2], [.int .i64 0, a.eval o4, a.eval o5], rfl, g2, ⟨[.int .i64 0], [a.eval o4, a.eval o5], rfl, rfl, ⟨[a.eval o4], [a.eval o5], rfl, g4, g5⟩⟩⟩⟩⟩⟩
    have zr : (zeroValue 45).run Tryz.prog w = .ok (.agg #[.int .i64 0, .int .i64 0, .int .i64 0, .int .i64 0, .int .i64 0, .int .i64 0]) w := by kernel_rfl
    have si3 : (sizeOf 3).run Tryz.prog w = .ok 1 w := by kernel_rfl
    have zq : (Value.agg #[.int .i64 0, .int .i64 0, .int .i64 0, .int .i64 0, .int .i64 0, .int .i64 0]).cells = #[.int .i64 0, .int .i64 0, .int .i64 0, .int .i64 0, .int .i64 0, .int .i64 0] := rfl
    simp [execOp, plain, Instr.build, zr, run_underlying Tryz.underlying45, zq, Instr.fill, c2, c4, c5]
theorem bd95_01 {Γ : List (Nat × Pr)} {ty : TypeId} {x0 : Int} {o0 : Operand} {x1 : Bool} {o1 : Operand} (h0 : Od Γ o0 (isV x0)) (h1 : Od Γ o1 (isV x1)) : StepP Tryz.prog (.build 95 #[(0, o0), (1, o1)]) ty Γ (isV ((x0, x1) : S_watch_lag)) :=
  step_pure fun c w a hc hm => by
    have g0 := h0.get hm (by simp [Op.operands])
    have c0 := cells_one (α := Int) rfl g0
    have g1 := h1.get hm (by simp [Op.operands])
    have c1 := cells_one (α := Bool) rfl g1
    refine ⟨.agg #[a.eval o0, a.eval o1], ?_, [a.eval o0, a.eval o1], rfl, ⟨[a.eval o0], [a.eval o1], rfl, g0, g1⟩⟩
    have zr : (zeroValue 95).run Tryz.prog w = .ok (.agg #[.int .i64 0, .bool false]) w := by kernel_rfl
    have si3 : (sizeOf 3).run Tryz.prog w = .ok 1 w := by kernel_rfl
    have si4 : (sizeOf 4).run Tryz.prog w = .ok 1 w := by kernel_rfl
    have zq : (Value.agg #[.int .i64 0, .bool false]).cells = #[.int .i64 0, .bool false] := rfl
    simp [execOp, plain, Instr.build, zr, run_underlying Tryz.underlying95, zq, Instr.fill, c0, c1]
theorem fo25_0 : FieldO Tryz.prog 25 0 0 := FieldO.mk' Tryz.underlying25 rfl (by kernel_rfl) rfl
theorem fo25_3 : FieldO Tryz.prog 25 3 3 := FieldO.mk' Tryz.underlying25 rfl (by kernel_rfl) rfl
theorem fo25_4 : FieldO Tryz.prog 25 4 4 := FieldO.mk' Tryz.underlying25 rfl (by kernel_rfl) rfl
theorem fo45_0 : FieldO Tryz.prog 45 0 0 := FieldO.mk' Tryz.underlying45 rfl (by kernel_rfl) rfl
theorem mp121 : MpP Tryz.prog 121 := MpP.mk' Tryz.underlying121 Tryz.underlying3 (by kernel_rfl)
theorem tyR100_01 : TyP Tryz.prog 100 (Raw × Raw) := TyP.mk' Tryz.underlying100 rfl (by kernel_rfl)
theorem fdR100_01_0 : FieldP Tryz.prog 100 0 (fun x : Raw × Raw => x.1) := FieldP.mk' Tryz.underlying100 rfl (by kernel_rfl) rfl fun c vs x h => by have := rep_fst h; exact this
theorem fdR100_01_1 : FieldP Tryz.prog 100 1 (fun x : Raw × Raw => x.2) := FieldP.mk' Tryz.underlying100 rfl (by kernel_rfl) rfl fun c vs x h => by have := rep_all (rep_snd h); exact this
theorem tyR100_0 : TyP Tryz.prog 100 (Raw × (List Int)) := TyP.mk' Tryz.underlying100 rfl (by kernel_rfl)
theorem fdR100_0_0 : FieldP Tryz.prog 100 0 (fun x : Raw × (List Int) => x.1) := FieldP.mk' Tryz.underlying100 rfl (by kernel_rfl) rfl fun c vs x h => by have := rep_fst h; exact this
theorem tyR100_1 : TyP Tryz.prog 100 ((List Int) × Raw) := TyP.mk' Tryz.underlying100 rfl (by kernel_rfl)
theorem fdR100_1_1 : FieldP Tryz.prog 100 1 (fun x : (List Int) × Raw => x.2) := FieldP.mk' Tryz.underlying100 rfl (by kernel_rfl) rfl fun c vs x h => by have := rep_all (rep_snd h); exact this
theorem tyR122_w : TyP Tryz.prog 122 Raw := TyP.mk' Tryz.underlying122 rfl (by kernel_rfl)
theorem ziR122_w : ZeroIs Tryz.prog 122 (Raw.mk (.nilFunc)) := ZeroIs.mk' (cs := [.nilFunc]) (by kernel_rfl) (fun c => ⟨rfl, rfl⟩)
theorem tyR135_w : TyP Tryz.prog 135 Raw := TyP.mk' Tryz.underlying135 rfl (by kernel_rfl)
theorem ziR135_w : ZeroIs Tryz.prog 135 (Raw.mk (.slice none 0 0)) := ZeroIs.mk' (cs := [.slice none 0 0]) (by kernel_rfl) (fun c => ⟨rfl, rfl⟩)
theorem tyR22_w : TyP Tryz.prog 22 Raw := TyP.mk' Tryz.underlying22 rfl (by kernel_rfl)
theorem ziR22_w : ZeroIs Tryz.prog 22 (Raw.mk (.slice none 0 0)) := ZeroIs.mk' (cs := [.slice none 0 0]) (by kernel_rfl) (fun c => ⟨rfl, rfl⟩)
theorem tyR23_w : TyP Tryz.prog 23 Raw := TyP.mk' Tryz.underlying23 rfl (by kernel_rfl)
theorem ziR25_ : ZeroIs Tryz.prog 25 ((0, 0, 0, [], []) : Int × Int × Int × (List (List Int)) × (List S_api_Turn)) := ZeroIs.mk' (cs := [.int .i64 0, .int .i64 0, .int .i64 0, .slice none 0 0, .slice none 0 0]) (by kernel_rfl) (fun c => ⟨[.int .i64 0], [.int .i64 0, .int .i64 0, .slice none 0 0, .slice none 0 0], rfl, rfl, ⟨[.int .i64 0], [.int .i64 0, .slice none 0 0, .slice none 0 0], rfl, rfl, ⟨[.int .i64 0], [.slice none 0 0, .slice none 0 0], rfl, rfl, ⟨[.slice none 0 0], [.slice none 0 0], rfl, (.inl ⟨none, 0, rfl, Nat.zero_le _, rfl⟩), (.inl ⟨none, 0, rfl, Nat.zero_le _, rfl⟩)⟩⟩⟩⟩)
theorem ziR25_3 : ZeroIs Tryz.prog 25 ((0, 0, 0, Raw.mk (.slice none 0 0), []) : Int × Int × Int × Raw × (List S_api_Turn)) := ZeroIs.mk' (cs := [.int .i64 0, .int .i64 0, .int .i64 0, .slice none 0 0, .slice none 0 0]) (by kernel_rfl) (fun c => ⟨[.int .i64 0], [.int .i64 0, .int .i64 0, .slice none 0 0, .slice none 0 0], rfl, rfl, ⟨[.int .i64 0], [.int .i64 0, .slice none 0 0, .slice none 0 0], rfl, rfl, ⟨[.int .i64 0], [.slice none 0 0, .slice none 0 0], rfl, rfl, ⟨[.slice none 0 0], [.slice none 0 0], rfl, ⟨rfl, rfl⟩, (.inl ⟨none, 0, rfl, Nat.zero_le _, rfl⟩)⟩⟩⟩⟩)
theorem fdR25_3_3 : FieldP Tryz.prog 25 3 (fun x : Int × Int × Int × Raw × (List S_api_Turn) => x.2.2.2.1) := FieldP.mk' Tryz.underlying25 rfl (by kernel_rfl) rfl fun c vs x h => by have := rep_fst (rep_snd (rep_snd (rep_snd h))); simp only [List.drop_drop] at this; exact this
theorem fdR25_4_4 : FieldP Tryz.prog 25 4 (fun x : Int × Int × Int × (List (List Int)) × Raw => x.2.2.2.2) := FieldP.mk' Tryz.underlying25 rfl (by kernel_rfl) rfl fun c vs x h => by have := rep_all (rep_snd (rep_snd (rep_snd (rep_snd h)))); simp only [List.drop_drop] at this; exact this
theorem tyR26_w : TyP Tryz.prog 26 Raw := TyP.mk' Tryz.underlying26 rfl (by kernel_rfl)
theorem bdR100_01_01 {Γ : List (Nat × Pr)} {ty : TypeId} {x0 : Raw} {o0 : Operand} {x1 : Raw} {o1 : Operand} (h0 : Od Γ o0 (isV x0)) (h1 : Od Γ o1 (isV x1)) : StepP Tryz.prog (.build 100 #[(0, o0), (1, o1)]) ty Γ (isV ((x0, x1) : Raw × Raw)) :=
  step_pure fun c w a hc hm => by
    have g0 := h0.get hm (by simp [Op.operands])
    have c0 := cells_one (α := Raw) rfl g0
    have g1 := h1.get hm (by simp [Op.operands])
    have c1 := cells_one (α := Raw) rfl g1
    refine ⟨.agg #[a.eval o0, a.eval o1], ?_, [a.eval o0, a.eval o1], rfl, ⟨[a.eval o0], [a.eval o1], rfl, g0, g1⟩⟩
    have zr : (zeroValue 100).run Tryz.prog w = .ok (.agg #[.slice none 0 0, .slice none 0 0]) w := by kernel_rfl
    have si26 : (sizeOf 26).run Tryz.prog w = .ok 1 w := by kernel_rfl
    have zq : (Value.agg #[.slice none 0 0, .slice none 0 0]).cells = #[.slice none 0 0, .slice none 0 0] := rfl
    simp [execOp, plain, Instr.build, zr, run_underlying Tryz.underlying100, zq, Instr.fill, c0, c1]
theorem bdR100_01_0 {Γ : List (Nat × Pr)} {ty : TypeId} {x0 : Raw} {o0 : Operand} {x1 : List Int} {o1 : Operand} (h0 : Od Γ o0 (isV x0)) (h1 : Od Γ o1 (isV x1)) : StepP Tryz.prog (.build 100 #[(0, o0), (1, o1)]) ty Γ (isV ((x0, x1) : Raw × (List Int))) :=
  step_pure fun c w a hc hm => by
    have g0 := h0.get hm (by simp [Op.operands])
    have c0 := cells_one (α := Raw) rfl g0
    have g1 := h1.get hm (by simp [Op.operands])
    have c1 := cells_one (α := List Int) rfl g1
    refine ⟨.agg #[a.eval o0, a.eval o1], ?_, [a.eval o0, a.eval o1], rfl, ⟨[a.eval o0], [a.eval o1], rfl, g0, g1⟩⟩
    have zr : (zeroValue 100).run Tryz.prog w = .ok (.agg #[.slice none 0 0, .slice none 0 0]) w := by kernel_rfl
    have si26 : (sizeOf 26).run Tryz.prog w = .ok 1 w := by kernel_rfl
    have zq : (Value.agg #[.slice none 0 0, .slice none 0 0]).cells = #[.slice none 0 0, .slice none 0 0] := rfl
    simp [execOp, plain, Instr.build, zr, run_underlying Tryz.underlying100, zq, Instr.fill, c0, c1]
theorem bdR100_01_1 {Γ : List (Nat × Pr)} {ty : TypeId} {x0 : List Int} {o0 : Operand} {x1 : Raw} {o1 : Operand} (h0 : Od Γ o0 (isV x0)) (h1 : Od Γ o1 (isV x1)) : StepP Tryz.prog (.build 100 #[(0, o0), (1, o1)]) ty Γ (isV ((x0, x1) : (List Int) × Raw)) :=
  step_pure fun c w a hc hm => by
    have g0 := h0.get hm (by simp [Op.operands])
    have c0 := cells_one (α := List Int) rfl g0
    have g1 := h1.get hm (by simp [Op.operands])
    have c1 := cells_one (α := Raw) rfl g1
    refine ⟨.agg #[a.eval o0, a.eval o1], ?_, [a.eval o0, a.eval o1], rfl, ⟨[a.eval o0], [a.eval o1], rfl, g0, g1⟩⟩
    have zr : (zeroValue 100).run Tryz.prog w = .ok (.agg #[.slice none 0 0, .slice none 0 0]) w := by kernel_rfl
    have si26 : (sizeOf 26).run Tryz.prog w = .ok 1 w := by kernel_rfl
    have zq : (Value.agg #[.slice none 0 0, .slice none 0 0]).cells = #[.slice none 0 0, .slice none 0 0] := rfl
    simp [execOp, plain, Instr.build, zr, run_underlying Tryz.underlying100, zq, Instr.fill, c0, c1]
theorem sf25__3 {x0 : Int} {x1 : Int} {x2 : Int} {x3 : (List (List Int))} {x4 : (List S_api_Turn)} {z : (List (List Int))} : SetF 3 ((x0, x1, x2, x3, x4) : Int × Int × Int × (List (List Int)) × (List S_api_Turn)) z ((x0, x1, x2, z, x4) : Int × Int × Int × (List (List Int)) × (List S_api_Turn)) := (SetF.snd (off := 2) (SetF.snd (off := 1) (SetF.snd (off := 0) (SetF.fst (off := 0) SetF.self) rfl) rfl) rfl)
theorem sf25_3_3 {x0 : Int} {x1 : Int} {x2 : Int} {x3 : Raw} {x4 : (List S_api_Turn)} {z : Raw} : SetF 3 ((x0, x1, x2, x3, x4) : Int × Int × Int × Raw × (List S_api_Turn)) z ((x0, x1, x2, z, x4) : Int × Int × Int × Raw × (List S_api_Turn)) := (SetF.snd (off := 2) (SetF.snd (off := 1) (SetF.snd (off := 0) (SetF.fst (off := 0) SetF.self) rfl) rfl) rfl)
theorem sf25_4_0 {x0 : Int} {x1 : Int} {x2 : Int} {x3 : (List (List Int))} {x4 : Raw} {z : Int} : SetF 0 ((x0, x1, x2, x3, x4) : Int × Int × Int × (List (List Int)) × Raw) z ((z, x1, x2, x3, x4) : Int × Int × Int × (List (List Int)) × Raw) := (SetF.fst (off := 0) SetF.self)
theorem sf25_4_4 {x0 : Int} {x1 : Int} {x2 : Int} {x3 : (List (List Int))} {x4 : Raw} {z : Raw} : SetF 4 ((x0, x1, x2, x3, x4) : Int × Int × Int × (List (List Int)) × Raw) z ((x0, x1, x2, x3, z) : Int × Int × Int × (List (List Int)) × Raw) := (SetF.snd (off := 3) (SetF.snd (off := 2) (SetF.snd (off := 1) (SetF.snd (off := 0) SetF.self rfl) rfl) rfl) rfl)
theorem sf45__0 {x0 : Int} {x1 : Int} {x2 : Int} {x3 : Int} {x4 : Int} {x5 : Int} {z : Int} : SetF 0 ((x0, x1, x2, x3, x4, x5) : Int × Int × Int × Int × Int × Int) z ((z, x1, x2, x3, x4, x5) : Int × Int × Int × Int × Int × Int) := (SetF.fst (off := 0) SetF.self)
theorem zeR121 : ZeroP Tryz.prog 121 Raw := ZeroP.mk' (by kernel_rfl)
theorem tyM121 : TyP Tryz.prog 121 Raw := TyP.mk' Tryz.underlying121 rfl (by kernel_rfl)
theorem ze100026 : ZeroP Tryz.prog 26 (NL Int) := ZeroP.mk' (by kernel_rfl)
theorem ze113 : ZeroP Tryz.prog 113 (Vector (Vector Int 8) 8) := ZeroP.mk' (by kernel_rfl)
theorem ze25 : ZeroP Tryz.prog 25 S_api_Roster := ZeroP.mk' (by kernel_rfl)
theorem ze26 : ZeroP Tryz.prog 26 (List Int) := ZeroP.mk' (by kernel_rfl)
theorem ze3 : ZeroP Tryz.prog 3 Int := ZeroP.mk' (by kernel_rfl)
theorem ze45 : ZeroP Tryz.prog 45 S_api_Turn := ZeroP.mk' (by kernel_rfl)
theorem ze55 : ZeroP Tryz.prog 55 (Int → Option Bool) := ZeroP.mk' (by kernel_rfl)
theorem ze85 : ZeroP Tryz.prog 85 ((List Int) → (List Int) → Option Int) := ZeroP.mk' (by kernel_rfl)
theorem ze9 : ZeroP Tryz.prog 9 ByteArray := ZeroP.mk' (by kernel_rfl)
theorem ze95 : ZeroP Tryz.prog 95 S_watch_lag := ZeroP.mk' (by kernel_rfl)
theorem zi100 : ZeroIs Tryz.prog 100 (([], []) : S_watch_bounds) := ZeroIs.mk' (cs := [.slice none 0 0, .slice none 0 0]) (by kernel_rfl) (fun c => ⟨[.slice none 0 0], [.slice none 0 0], rfl, (.inl ⟨none, 0, rfl, Nat.zero_le _, rfl⟩), (.inl ⟨none, 0, rfl, Nat.zero_le _, rfl⟩)⟩)
theorem zi100026 : ZeroIs Tryz.prog 26 (⟨[]⟩ : NL Int) := ZeroIs.mk' (cs := [.slice none 0 0]) (by kernel_rfl) (fun c => ⟨.inl ⟨none, 0, rfl, Nat.zero_le _, rfl⟩, fun _ => rfl⟩)
theorem zi113 : ZeroIs Tryz.prog 113 (Vector.replicate 8 (#v[0, 0, 0, 0, 0, 0, 0, 0] : Vector Int 8) : Vector (Vector Int 8) 8) := ZeroIs.mk' (cs := (List.replicate 8 [.int .i64 0, .int .i64 0, .int .i64 0, .int .i64 0, .int .i64 0, .int .i64 0, .int .i64 0, .int .i64 0]).flatten) (by kernel_rfl) (fun c => repV_replicate (x := (#v[0, 0, 0, 0, 0, 0, 0, 0] : Vector Int 8)) (show RepL c [.int .i64 0, .int .i64 0, .int .i64 0, .int .i64 0, .int .i64 0, .int .i64 0, .int .i64 0, .int .i64 0] ([0, 0, 0, 0, 0, 0, 0, 0] : List Int) from ⟨[.int .i64 0], [.int .i64 0, .int .i64 0, .int .i64 0, .int .i64 0, .int .i64 0, .int .i64 0, .int .i64 0], rfl, rfl, ⟨[.int .i64 0], [.int .i64 0, .int .i64 0, .int .i64 0, .int .i64 0, .int .i64 0, .int .i64 0], rfl, rfl, ⟨[.int .i64 0], [.int .i64 0, .int .i64 0, .int .i64 0, .int .i64 0, .int .i64 0], rfl, rfl, ⟨[.int .i64 0], [.int .i64 0, .int .i64 0, .int .i64 0, .int .i64 0], rfl, rfl, ⟨[.int .i64 0], [.int .i64 0, .int .i64 0, .int .i64 0], rfl, rfl, ⟨[.int .i64 0], [.int .i64 0, .int .i64 0], rfl, rfl, ⟨[.int .i64 0], [.int .i64 0], rfl, rfl, ⟨[.int .i64 0], [], rfl, rfl, rfl⟩⟩⟩⟩⟩⟩⟩⟩))
theorem zi25 : ZeroIs Tryz.prog 25 ((0, 0, 0, [], []) : S_api_Roster) := ZeroIs.mk' (cs := [.int .i64 0, .int .i64 0, .int .i64 0, .slice none 0 0, .slice none 0 0]) (by kernel_rfl) (fun c => ⟨[.int .i64 0], [.int .i64 0, .int .i64 0, .slice none 0 0, .slice none 0 0], rfl, rfl, ⟨[.int .i64 0], [.int .i64 0, .slice none 0 0, .slice none 0 0], rfl, rfl, ⟨[.int .i64 0], [.slice none 0 0, .slice none 0 0], rfl, rfl, ⟨[.slice none 0 0], [.slice none 0 0], rfl, (.inl ⟨none, 0, rfl, Nat.zero_le _, rfl⟩), (.inl ⟨none, 0, rfl, Nat.zero_le _, rfl⟩)⟩⟩⟩⟩)
theorem zi3 : ZeroIs Tryz.prog 3 (0 : Int) := ZeroIs.mk' (cs := [.int .i64 0]) (by kernel_rfl) (fun c => rfl)
theorem zi45 : ZeroIs Tryz.prog 45 ((0, 0, 0, 0, 0, 0) : S_api_Turn) := ZeroIs.mk' (cs := [.int .i64 0, .int .i64 0, .int .i64 0, .int .i64 0, .int .i64 0, .int .i64 0]) (by kernel_rfl) (fun c => ⟨[.int .i64 0], [.int .i64 0, .int .i64 0, .int .i64 0, .int .i64 0, .int .i64 0], rfl, rfl, ⟨[.int .i64 0], [.int .i64 0, .int .i64 0, .int .i64 0, .int .i64 0], rfl, rfl, ⟨[.int .i64 0], [.int .i64 0, .int .i64 0, .int .i64 0], rfl, rfl, ⟨[.int .i64 0], [.int .i64 0, .int .i64 0], rfl, rfl, ⟨[.int .i64 0], [.int .i64 0], rfl, rfl, rfl⟩⟩⟩⟩⟩)
theorem zi95 : ZeroIs Tryz.prog 95 ((0, false) : S_watch_lag) := ZeroIs.mk' (cs := [.int .i64 0, .bool false]) (by kernel_rfl) (fun c => ⟨[.int .i64 0], [.bool false], rfl, rfl, rfl⟩)
theorem eq111 : EqP Tryz.prog 2 111 (Vector Int 8) := EqP.array ar111 (EqP.int Tryz.underlying3)
theorem eq113 : EqP Tryz.prog 3 113 (Vector (Vector Int 8) 8) := EqP.array ar113 eq111
theorem eg113 : Tryz.prog.eqGuardType Tryz.prog.depth 113 = false := by kernel_rfl
end Go.Proofs.YthogdhepjcomjaaGreatDoor
