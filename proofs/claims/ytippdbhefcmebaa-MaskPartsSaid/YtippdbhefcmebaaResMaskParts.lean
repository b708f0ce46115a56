import Derived.Test.YtippdbhefcmebaaProg
import Derived.Test.YtippdbhefcmebaaAeB
import Derived.Test.YtippdbhefcmebaaMaskX
import Derived.Test.YtippdbhefcmebaaMaskX2
namespace Go.Proofs.Ytippdbhefcmebaa.EMaskParts
open Go Go.Proofs.Ytippdbhefcmebaa.AE
set_option maxRecDepth 100000
set_option linter.unusedVariables false
-- tatting/tattinglaw6.MaskParts
noncomputable def c6 : Code := match Try.f6.body with | some c => c | none => .skip
def s6 : Sig := ⟨⟨[.dat (.slice (.int .i64))], []⟩, ⟨[.dat .bool], []⟩⟩
def hs6 : List (List Nat × LH) := [([0, 1, 0, 1, 1, 1, 1, 1, 1, 1, 1, 1], ⟨[3, 4, 5, 6, 7, 8], ⟨[.dat (.slice (.int .i64)), .dat (.ext 0), .dat (.slice (.int .u64)), .dat (.int .i64), .dat (.slice (.int .i64)), .dat (.int .i64)], []⟩, 0⟩)]
noncomputable def h6 : How s6 := .code Try.f6 c6 hs6
-- tatting/tattinglaw6.awake
noncomputable def c8 : Code := match Try.f8.body with | some c => c | none => .skip
def s8 : Sig := ⟨⟨[], []⟩, ⟨[.dat .bool], []⟩⟩
def hs8 : List (List Nat × LH) := []
noncomputable def h8 : How s8 := .code Try.f8 c8 hs8
-- tatting/tattingref5.Same
noncomputable def c13 : Code := match Try.f13.body with | some c => c | none => .skip
def s13 : Sig := ⟨⟨[.dat (.slice (.int .u64)), .dat (.slice (.int .u64))], []⟩, ⟨[.dat .bool], []⟩⟩
def hs13 : List (List Nat × LH) := [([0, 1, 0, 1, 1], ⟨[0, 1, 5], ⟨[.dat (.slice (.int .u64)), .dat (.slice (.int .u64)), .dat (.int .i64)], []⟩, 0⟩)]
noncomputable def h13 : How s13 := .code Try.f13 c13 hs13
-- tatting/tattingref1.Few
noncomputable def c18 : Code := match Try.f18.body with | some c => c | none => .skip
def s18 : Sig := ⟨⟨[.dat (.slice (.int .i64)), .dat (.int .i64)], []⟩, ⟨[.dat (.slice (.int .i64))], []⟩⟩
def hs18 : List (List Nat × LH) := [([0, 1, 0, 1, 1], ⟨[0, 1, 5, 6], ⟨[.dat (.slice (.int .i64)), .dat (.int .i64), .ref 0, .dat (.int .i64)], [.row (.int .i64)]⟩, 0⟩)]
noncomputable def h18 : How s18 := .code Try.f18 c18 hs18
-- tatting/vec.Words
noncomputable def c19 : Code := match Try.f19.body with | some c => c | none => .skip
def s19 : Sig := ⟨⟨[.dat (.int .i64)], []⟩, ⟨[.dat (.int .i64)], []⟩⟩
def hs19 : List (List Nat × LH) := []
noncomputable def h19 : How s19 := .code Try.f19 c19 hs19
-- tatting/vec.Count
noncomputable def c20 : Code := match Try.f20.body with | some c => c | none => .skip
def s20 : Sig := ⟨⟨[.dat (.slice (.int .u64)), .dat (.int .i64)], []⟩, ⟨[.dat (.int .i64)], []⟩⟩
def hs20 : List (List Nat × LH) := [([0, 1, 0, 1, 1], ⟨[5, 10, 11, 12], ⟨[.dat (.int .i64), .dat (.slice (.int .u64)), .dat (.int .i64), .dat (.int .i64)], []⟩, 0⟩)]
noncomputable def h20 : How s20 := .code Try.f20 c20 hs20
-- tatting/vec.Or
noncomputable def c21 : Code := match Try.f21.body with | some c => c | none => .skip
def s21 : Sig := ⟨⟨[.dat (.slice (.int .u64)), .dat (.slice (.int .u64))], []⟩, ⟨[.dat (.slice (.int .u64))], []⟩⟩
def hs21 : List (List Nat × LH) := [([0, 1, 0, 1, 1], ⟨[0, 1, 5, 14, 15], ⟨[.dat (.slice (.int .u64)), .dat (.slice (.int .u64)), .ref 0, .dat (.int .i64), .dat (.int .i64)], [.row (.int .u64)]⟩, 0⟩)]
noncomputable def h21 : How s21 := .code Try.f21 c21 hs21
-- tatting/vec.Ones
noncomputable def c22 : Code := match Try.f22.body with | some c => c | none => .skip
def s22 : Sig := ⟨⟨[.dat (.int .i64)], []⟩, ⟨[.dat (.slice (.int .u64))], []⟩⟩
def hs22 : List (List Nat × LH) := []
noncomputable def h22 : How s22 := .code Try.f22 c22 hs22
-- tatting/vec.Fit
noncomputable def c26 : Code := match Try.f26.body with | some c => c | none => .skip
def s26 : Sig := ⟨⟨[.dat (.slice (.int .u64)), .dat (.int .i64)], []⟩, ⟨[.dat (.slice (.int .u64))], []⟩⟩
def hs26 : List (List Nat × LH) := [([0, 1, 0, 1, 1], ⟨[0, 1, 5, 11, 12], ⟨[.dat (.slice (.int .u64)), .dat (.int .i64), .ref 0, .dat (.int .i64), .dat (.int .i64)], [.row (.int .u64)]⟩, 0⟩)]
noncomputable def h26 : How s26 := .code Try.f26 c26 hs26
-- tatting/vec.width
noncomputable def c29 : Code := match Try.f29.body with | some c => c | none => .skip
def s29 : Sig := ⟨⟨[.dat (.int .i64)], []⟩, ⟨[.dat (.int .i64)], []⟩⟩
def hs29 : List (List Nat × LH) := []
noncomputable def h29 : How s29 := .code Try.f29 c29 hs29
-- math/bits.OnesCount64
noncomputable def c30 : Code := match Try.f30.body with | some c => c | none => .skip
def s30 : Sig := ⟨⟨[.dat (.int .u64)], []⟩, ⟨[.dat (.int .i64)], []⟩⟩
def hs30 : List (List Nat × LH) := []
noncomputable def h30 : How s30 := .code Try.f30 c30 hs30
-- tatting/vec.at
noncomputable def c31 : Code := match Try.f31.body with | some c => c | none => .skip
def s31 : Sig := ⟨⟨[.dat (.slice (.int .u64)), .dat (.int .i64)], []⟩, ⟨[.dat (.int .u64)], []⟩⟩
def hs31 : List (List Nat × LH) := []
noncomputable def h31 : How s31 := .code Try.f31 c31 hs31
-- tatting/vec.Not
noncomputable def c32 : Code := match Try.f32.body with | some c => c | none => .skip
def s32 : Sig := ⟨⟨[.dat (.slice (.int .u64)), .dat (.int .i64)], []⟩, ⟨[.dat (.slice (.int .u64))], []⟩⟩
def hs32 : List (List Nat × LH) := [([0, 1, 0, 1, 1], ⟨[0, 1, 5, 11, 12], ⟨[.dat (.slice (.int .u64)), .dat (.int .i64), .ref 0, .dat (.int .i64), .dat (.int .i64)], [.row (.int .u64)]⟩, 0⟩)]
noncomputable def h32 : How s32 := .code Try.f32 c32 hs32
-- tatting/vec.mask
noncomputable def c35 : Code := match Try.f35.body with | some c => c | none => .skip
def s35 : Sig := ⟨⟨[.dat (.int .i64), .dat (.int .i64)], []⟩, ⟨[.dat (.int .u64)], []⟩⟩
def hs35 : List (List Nat × LH) := []
noncomputable def h35 : How s35 := .code Try.f35 c35 hs35
-- tatting/mask.New
def s7 : Sig := ⟨⟨[.dat (.slice (.int .i64))], []⟩, ⟨[.dat (.ext 0)], []⟩⟩
def h7 : How s7 := .orc (fun _ x => maskNew x)
-- (*tatting/mask.Masks).Of
def s9 : Sig := ⟨⟨[.dat (.ext 0), .dat (.int .i64)], []⟩, ⟨[.dat (.slice (.int .u64))], []⟩⟩
def h9 : How s9 := .orc (fun _ x => maskOf x)
-- (*tatting/mask.Masks).Len
def s10 : Sig := ⟨⟨[.dat (.ext 0)], []⟩, ⟨[.dat (.int .i64)], []⟩⟩
def h10 : How s10 := .orc (fun _ x => MaskX.maskLen x)
-- (*tatting/mask.Masks).Words
def s11 : Sig := ⟨⟨[.dat (.ext 0)], []⟩, ⟨[.dat (.int .i64)], []⟩⟩
def h11 : How s11 := .orc (fun _ x => MaskX.maskWordsOf x)
-- (*tatting/mask.Masks).Symbols
def s12 : Sig := ⟨⟨[.dat (.ext 0)], []⟩, ⟨[.dat (.slice (.int .i64))], []⟩⟩
def h12 : How s12 := .orc (fun _ x => MaskX.maskSyms x)
noncomputable def E : Env := {
  fns := [⟨Sig.none, .none⟩,
    ⟨Sig.none, .none⟩,
    ⟨Sig.none, .none⟩,
    ⟨Sig.none, .none⟩,
    ⟨Sig.none, .none⟩,
    ⟨Sig.none, .none⟩,
    ⟨s6, h6⟩,
    ⟨s7, h7⟩,
    ⟨s8, h8⟩,
    ⟨s9, h9⟩,
    ⟨s10, h10⟩,
    ⟨s11, h11⟩,
    ⟨s12, h12⟩,
    ⟨s13, h13⟩,
    ⟨Sig.none, .none⟩,
    ⟨Sig.none, .none⟩,
    ⟨Sig.none, .none⟩,
    ⟨Sig.none, .none⟩,
    ⟨s18, h18⟩,
    ⟨s19, h19⟩,
    ⟨s20, h20⟩,
    ⟨s21, h21⟩,
    ⟨s22, h22⟩,
    ⟨Sig.none, .none⟩,
    ⟨Sig.none, .none⟩,
    ⟨Sig.none, .none⟩,
    ⟨s26, h26⟩,
    ⟨Sig.none, .none⟩,
    ⟨Sig.none, .none⟩,
    ⟨s29, h29⟩,
    ⟨s30, h30⟩,
    ⟨s31, h31⟩,
    ⟨s32, h32⟩,
    ⟨Sig.none, .none⟩,
    ⟨Sig.none, .none⟩,
    ⟨s35, h35⟩],
  tys := [none,
    none,
    none,
    some ⟨(.int .i64), 0⟩,
    some ⟨.bool, 0⟩,
    none,
    none,
    none,
    none,
    none,
    none,
    none,
    none,
    none,
    none,
    none,
    none,
    none,
    none,
    none,
    none,
    none,
    some ⟨(.slice (.int .i64)), 8⟩,
    some ⟨(.ext 0), 0⟩,
    none,
    none,
    some ⟨(.slice (.int .u64)), 8⟩,
    none,
    some ⟨(.int .u64), 0⟩,
    none,
    none,
    none,
    none,
    none,
    none,
    none,
    none,
    none,
    none,
    none,
    none,
    none,
    none,
    none,
    none,
    some ⟨(.int .u64), 0⟩,
    none,
    none,
    none,
    none,
    none,
    none,
    none,
    none,
    none,
    none,
    none,
    none,
    none,
    none,
    none,
    none,
    none,
    none,
    none,
    none,
    none,
    none,
    none,
    none,
    none,
    none,
    none,
    none,
    none,
    none,
    none,
    none,
    none,
    none,
    none,
    none,
    none,
    none,
    none,
    none,
    none,
    none,
    none,
    none] }
theorem tys : tysOK Try.prog E.tys = true := by decide +kernel
theorem ok6 (X : ExtRep) : EntryOK Try.prog X 6 s6 h6 := ⟨Try.func6, rfl, by decide, by decide⟩
theorem ok8 (X : ExtRep) : EntryOK Try.prog X 8 s8 h8 := ⟨Try.func8, rfl, by decide, by decide⟩
theorem ok13 (X : ExtRep) : EntryOK Try.prog X 13 s13 h13 := ⟨Try.func13, rfl, by decide, by decide⟩
theorem ok18 (X : ExtRep) : EntryOK Try.prog X 18 s18 h18 := ⟨Try.func18, rfl, by decide, by decide⟩
theorem ok19 (X : ExtRep) : EntryOK Try.prog X 19 s19 h19 := ⟨Try.func19, rfl, by decide, by decide⟩
theorem ok20 (X : ExtRep) : EntryOK Try.prog X 20 s20 h20 := ⟨Try.func20, rfl, by decide, by decide⟩
theorem ok21 (X : ExtRep) : EntryOK Try.prog X 21 s21 h21 := ⟨Try.func21, rfl, by decide, by decide⟩
theorem ok22 (X : ExtRep) : EntryOK Try.prog X 22 s22 h22 := ⟨Try.func22, rfl, by decide, by decide⟩
theorem ok26 (X : ExtRep) : EntryOK Try.prog X 26 s26 h26 := ⟨Try.func26, rfl, by decide, by decide⟩
theorem ok29 (X : ExtRep) : EntryOK Try.prog X 29 s29 h29 := ⟨Try.func29, rfl, by decide, by decide⟩
theorem ok30 (X : ExtRep) : EntryOK Try.prog X 30 s30 h30 := ⟨Try.func30, rfl, by decide, by decide⟩
theorem ok31 (X : ExtRep) : EntryOK Try.prog X 31 s31 h31 := ⟨Try.func31, rfl, by decide, by decide⟩
theorem ok32 (X : ExtRep) : EntryOK Try.prog X 32 s32 h32 := ⟨Try.func32, rfl, by decide, by decide⟩
theorem ok35 (X : ExtRep) : EntryOK Try.prog X 35 s35 h35 := ⟨Try.func35, rfl, by decide, by decide⟩
-- tatting/tattinglaw6.MaskParts
def F6_0 (f7 : (List Int) → Option ((List Int))) (f8 : Unit → Option (Bool)) (f9 : (List Int) → Int → Option ((List Int))) (f12 : (List Int) → Option ((List Int))) (f13 : (List Int) → (List Int) → Option (Bool)) (f18 : (List Int) → Int → Option ((List Int))) (f19 : Int → Option (Int)) (f20 : (List Int) → Int → Option (Int)) (f21 : (List Int) → (List Int) → Option ((List Int))) (f22 : Int → Option ((List Int))) (self : ((List Int) × (List Int) × (List Int) × Int × (List Int) × Int) → Option (((List Int) × (List Int) × (List Int) × Int × (List Int) × Int) ⊕ (Bool))) (z10 : (List Int) × (List Int) × (List Int) × Int × (List Int) × Int) : Option (((List Int) × (List Int) × (List Int) × Int × (List Int) × Int) ⊕ (Bool)) :=
let v11 : Int := (z10.2.2.2.2.1.length : Int)
let v12 : Bool := decide (z10.2.2.2.2.2 < v11)
bif v12 then
if 0 ≤ z10.2.2.2.2.2 ∧ z10.2.2.2.2.2 < (z10.2.2.2.2.1.length : Int) then
let v13 : Int := z10.2.2.2.2.1.getD z10.2.2.2.2.2.toNat (0 : Int)
Option.bind (f9 z10.2.1 v13) fun y14 =>
let v15 : Int := (y14.length : Int)
let v16 : Int := (z10.1.length : Int)
Option.bind (f19 v16) fun y17 =>
let v18 : Bool := !decide (v15 = y17)
bif v18 == false then
let v19 : Bool := decide (z10.2.2.2.2.2 > (0 : Int))
bif v19 == true then
if 0 ≤ z10.2.2.2.2.2 ∧ z10.2.2.2.2.2 < (z10.2.2.2.2.1.length : Int) then
let v20 : Int := z10.2.2.2.2.1.getD z10.2.2.2.2.2.toNat (0 : Int)
let v21 : Int := IntKind.wrap .i64 (z10.2.2.2.2.2 - (1 : Int))
if 0 ≤ v21 ∧ v21 < (z10.2.2.2.2.1.length : Int) then
let v22 : Int := z10.2.2.2.2.1.getD v21.toNat (0 : Int)
let v23 : Bool := decide (v20 ≤ v22)
bif v23 then
some (.inr false)
else
let v24 : Int := (z10.1.length : Int)
Option.bind (f20 y14 v24) fun y25 =>
let v26 : Int := IntKind.wrap .i64 (z10.2.2.2.1 + y25)
Option.bind (f21 z10.2.2.1 y14) fun y27 =>
let v28 : Int := IntKind.wrap .i64 (z10.2.2.2.2.2 + (1 : Int))
self (z10.1, z10.2.1, y27, v26, z10.2.2.2.2.1, v28)
else none
else none
else
let v29 : Int := (z10.1.length : Int)
Option.bind (f20 y14 v29) fun y30 =>
let v31 : Int := IntKind.wrap .i64 (z10.2.2.2.1 + y30)
Option.bind (f21 z10.2.2.1 y14) fun y32 =>
let v33 : Int := IntKind.wrap .i64 (z10.2.2.2.2.2 + (1 : Int))
self (z10.1, z10.2.1, y32, v31, z10.2.2.2.2.1, v33)
else
some (.inr false)
else none
else
some (.inl (z10.1, z10.2.1, z10.2.2.1, z10.2.2.2.1, z10.2.2.2.2.1, z10.2.2.2.2.2))
def r6 (f7 : (List Int) → Option ((List Int))) (f8 : Unit → Option (Bool)) (f9 : (List Int) → Int → Option ((List Int))) (f12 : (List Int) → Option ((List Int))) (f13 : (List Int) → (List Int) → Option (Bool)) (f18 : (List Int) → Int → Option ((List Int))) (f19 : Int → Option (Int)) (f20 : (List Int) → Int → Option (Int)) (f21 : (List Int) → (List Int) → Option ((List Int))) (f22 : Int → Option ((List Int))) (lp0 : ((List Int) × (List Int) × (List Int) × Int × (List Int) × Int) → Option (((List Int) × (List Int) × (List Int) × Int × (List Int) × Int) ⊕ (Bool))) (a0 : (List Int)) : Option (Bool) :=
Option.bind (f8 ()) fun y1 =>
let v2 : Bool := !y1
bif v2 then
some false
else
let v3 : Int := (a0.length : Int)
let v4 : Bool := decide (v3 > (150 : Int))
bif v4 then
some true
else
Option.bind (f18 a0 (9 : Int)) fun y5 =>
Option.bind (f7 y5) fun y6 =>
Option.bind (f12 y6) fun y7 =>
Option.bind (lp0 (y5, y6, ([] : List Int), (0 : Int), y7, (0 : Int))) fun s8 => onSum s8 (fun y9 =>
let v35 : Int := (y9.1.length : Int)
let v36 : Bool := decide (y9.2.2.2.1 = v35)
bif v36 == true then
let v37 : Int := (y9.1.length : Int)
Option.bind (f22 v37) fun y38 =>
Option.bind (f13 y9.2.2.1 y38) fun y39 =>
some y39
else
some false) (fun o34 => some o34)
-- tatting/tattinglaw6.awake
def r8 (f7 : (List Int) → Option ((List Int))) (f9 : (List Int) → Int → Option ((List Int))) (f10 : (List Int) → Option (Int)) (f11 : (List Int) → Option (Int)) (f12 : (List Int) → Option ((List Int))) (_ : Unit) : Option (Bool) :=
let v1 : (List Int) := ([(7 : Int), (5 : Int), (7 : Int)] : List Int)
Option.bind (f7 v1) fun y2 =>
Option.bind (f9 y2 (7 : Int)) fun y3 =>
let v4 : Int := (y3.length : Int)
let v5 : Bool := decide (v4 = (1 : Int))
bif v5 == true then
if 0 ≤ (0 : Int) ∧ (0 : Int) < (y3.length : Int) then
let v6 : Int := y3.getD (0 : Int).toNat (0 : Int)
let v7 : Bool := decide (v6 = (5 : Int))
bif v7 == true then
Option.bind (f10 y2) fun y8 =>
let v9 : Bool := decide (y8 = (3 : Int))
bif v9 == true then
Option.bind (f11 y2) fun y10 =>
let v11 : Bool := decide (y10 = (1 : Int))
bif v11 == true then
Option.bind (f12 y2) fun y12 =>
let v13 : Int := (y12.length : Int)
let v14 : Bool := decide (v13 = (2 : Int))
some v14
else
some false
else
some false
else
some false
else none
else
some false
-- tatting/tattingref5.Same
def F13_0 (self : ((List Int) × (List Int) × Int) → Option (((List Int) × (List Int) × Int) ⊕ (Bool))) (z6 : (List Int) × (List Int) × Int) : Option (((List Int) × (List Int) × Int) ⊕ (Bool)) :=
let v7 : Int := (z6.1.length : Int)
let v8 : Bool := decide (z6.2.2 < v7)
bif v8 then
if 0 ≤ z6.2.2 ∧ z6.2.2 < (z6.1.length : Int) then
let v9 : Int := z6.1.getD z6.2.2.toNat (0 : Int)
if 0 ≤ z6.2.2 ∧ z6.2.2 < (z6.2.1.length : Int) then
let v10 : Int := z6.2.1.getD z6.2.2.toNat (0 : Int)
let v11 : Bool := !decide (v9 = v10)
bif v11 then
some (.inr false)
else
let v12 : Int := IntKind.wrap .i64 (z6.2.2 + (1 : Int))
self (z6.1, z6.2.1, v12)
else none
else none
else
some (.inl (z6.1, z6.2.1, z6.2.2))
def r13 (lp0 : ((List Int) × (List Int) × Int) → Option (((List Int) × (List Int) × Int) ⊕ (Bool))) (a0 : (List Int)) (a1 : (List Int)) : Option (Bool) :=
let v1 : Int := (a0.length : Int)
let v2 : Int := (a1.length : Int)
let v3 : Bool := !decide (v1 = v2)
bif v3 then
some false
else
Option.bind (lp0 (a0, a1, (0 : Int))) fun s4 => onSum s4 (fun y5 =>
some true) (fun o13 => some o13)
-- tatting/tattingref1.Few
def F18_0 (self : ((List Int) × Int × Int × (List Int)) → Option (((List Int) × Int × Int × (List Int)) ⊕ ((List Int)))) (z3 : (List Int) × Int × Int × (List Int)) : Option (((List Int) × Int × Int × (List Int)) ⊕ ((List Int))) :=
let v4 : Int := (z3.1.length : Int)
let v5 : Bool := decide (z3.2.2.1 < v4)
bif v5 then
if 0 ≤ z3.2.2.1 ∧ z3.2.2.1 < (z3.1.length : Int) then
let v6 : Int := z3.1.getD z3.2.2.1.toNat (0 : Int)
if z3.2.1 = 0 then none else
let v7 : Int := v6.tmod z3.2.1
let v8 : Bool := decide (v7 < (0 : Int))
bif v8 then
let v9 : Int := IntKind.wrap .i64 (v7 + z3.2.1)
let v10 : (List Int) := ([v9] : List Int)
if (z3.2.2.2.length + v10.length) * 8 ≤ 140737488355328 ∧ z3.2.2.2.length + v10.length ≤ 140737488355328 then
let v11 : (List Int) := z3.2.2.2 ++ v10
let v12 : Int := IntKind.wrap .i64 (z3.2.2.1 + (1 : Int))
self (z3.1, z3.2.1, v12, v11)
else none
else
let v13 : (List Int) := ([v7] : List Int)
if (z3.2.2.2.length + v13.length) * 8 ≤ 140737488355328 ∧ z3.2.2.2.length + v13.length ≤ 140737488355328 then
let v14 : (List Int) := z3.2.2.2 ++ v13
let v15 : Int := IntKind.wrap .i64 (z3.2.2.1 + (1 : Int))
self (z3.1, z3.2.1, v15, v14)
else none
else none
else
some (.inl (z3.1, z3.2.1, z3.2.2.1, z3.2.2.2))
def r18 (lp0 : ((List Int) × Int × Int × (List Int)) → Option (((List Int) × Int × Int × (List Int)) ⊕ ((List Int)))) (a0 : (List Int)) (a1 : Int) : Option ((List Int)) :=
Option.bind (lp0 (a0, a1, (0 : Int), ([] : List Int))) fun s1 => onSum s1 (fun y2 =>
some y2.2.2.2) (fun o16 => some o16)
-- tatting/vec.Words
def r19 (f29 : Int → Option (Int)) (a0 : Int) : Option (Int) :=
Option.bind (f29 a0) fun y1 =>
let v2 : Int := IntKind.wrap .i64 (y1 + (64 : Int))
let v3 : Int := IntKind.wrap .i64 (v2 - (1 : Int))
if (64 : Int) = 0 then none else
let v4 : Int := IntKind.wrap .i64 (v3.tdiv (64 : Int))
some v4
-- tatting/vec.Count
def F20_0 (f26 : (List Int) → Int → Option ((List Int))) (f30 : Int → Option (Int)) (self : (Int × (List Int) × Int × Int) → Option ((Int × (List Int) × Int × Int) ⊕ (Int))) (z5 : Int × (List Int) × Int × Int) : Option ((Int × (List Int) × Int × Int) ⊕ (Int)) :=
let v6 : Bool := decide (z5.2.2.2 < z5.2.2.1)
bif v6 then
if 0 ≤ z5.2.2.2 ∧ z5.2.2.2 < (z5.2.1.length : Int) then
let v7 : Int := z5.2.1.getD z5.2.2.2.toNat (0 : Int)
Option.bind (f30 v7) fun y8 =>
let v9 : Int := IntKind.wrap .i64 (z5.1 + y8)
let v10 : Int := IntKind.wrap .i64 (z5.2.2.2 + (1 : Int))
self (v9, z5.2.1, z5.2.2.1, v10)
else none
else
some (.inl (z5.1, z5.2.1, z5.2.2.1, z5.2.2.2))
def r20 (f26 : (List Int) → Int → Option ((List Int))) (f30 : Int → Option (Int)) (lp0 : (Int × (List Int) × Int × Int) → Option ((Int × (List Int) × Int × Int) ⊕ (Int))) (a0 : (List Int)) (a1 : Int) : Option (Int) :=
Option.bind (f26 a0 a1) fun y1 =>
let v2 : Int := (y1.length : Int)
Option.bind (lp0 ((0 : Int), y1, v2, (0 : Int))) fun s3 => onSum s3 (fun y4 =>
some y4.1) (fun o11 => some o11)
-- tatting/vec.Or
def F21_0 (f31 : (List Int) → Int → Option (Int)) (self : ((List Int) × (List Int) × Int × Int × (List Int)) → Option (((List Int) × (List Int) × Int × Int × (List Int)) ⊕ ((List Int)))) (z8 : (List Int) × (List Int) × Int × Int × (List Int)) : Option (((List Int) × (List Int) × Int × Int × (List Int)) ⊕ ((List Int))) :=
let v9 : Bool := decide (z8.2.2.2.1 < z8.2.2.1)
bif v9 then
Option.bind (f31 z8.1 z8.2.2.2.1) fun y10 =>
Option.bind (f31 z8.2.1 z8.2.2.2.1) fun y11 =>
let v12 : Int := bitop .or .u64 y10 y11
if 0 ≤ z8.2.2.2.1 ∧ z8.2.2.2.1 < (z8.2.2.2.2.length : Int) then
let v13 : (List Int) := z8.2.2.2.2.set z8.2.2.2.1.toNat v12
let v14 : Int := IntKind.wrap .i64 (z8.2.2.2.1 + (1 : Int))
self (z8.1, z8.2.1, z8.2.2.1, v14, v13)
else none
else
some (.inl (z8.1, z8.2.1, z8.2.2.1, z8.2.2.2.1, z8.2.2.2.2))
def r21 (f31 : (List Int) → Int → Option (Int)) (lp0 : ((List Int) × (List Int) × Int × Int × (List Int)) → Option (((List Int) × (List Int) × Int × Int × (List Int)) ⊕ ((List Int)))) (a0 : (List Int)) (a1 : (List Int)) : Option ((List Int)) :=
let v1 : Int := (a0.length : Int)
let v2 : Int := (a1.length : Int)
let v3 : Int := if v2 > v1 then v2 else v1
if 0 ≤ v3 ∧ v3 ≤ v3 ∧ v3 * (8 : Int) ≤ 140737488355328 ∧ v3 ≤ 140737488355328 then
let v4 : (List Int) := List.replicate v3.toNat (0 : Int)
let v5 : Int := (v4.length : Int)
Option.bind (lp0 (a0, a1, v5, (0 : Int), v4)) fun s6 => onSum s6 (fun y7 =>
some y7.2.2.2.2) (fun o15 => some o15)
else none
-- tatting/vec.Ones
def r22 (f32 : (List Int) → Int → Option ((List Int))) (a0 : Int) : Option ((List Int)) :=
Option.bind (f32 ([] : List Int) a0) fun y1 =>
some y1
-- tatting/vec.Fit
def F26_0 (f19 : Int → Option (Int)) (f31 : (List Int) → Int → Option (Int)) (f35 : Int → Int → Option (Int)) (self : ((List Int) × Int × Int × Int × (List Int)) → Option (((List Int) × Int × Int × Int × (List Int)) ⊕ ((List Int)))) (z6 : (List Int) × Int × Int × Int × (List Int)) : Option (((List Int) × Int × Int × Int × (List Int)) ⊕ ((List Int))) :=
let v7 : Bool := decide (z6.2.2.2.1 < z6.2.2.1)
bif v7 then
Option.bind (f31 z6.1 z6.2.2.2.1) fun y8 =>
Option.bind (f35 z6.2.1 z6.2.2.2.1) fun y9 =>
let v10 : Int := bitop .and .u64 y8 y9
if 0 ≤ z6.2.2.2.1 ∧ z6.2.2.2.1 < (z6.2.2.2.2.length : Int) then
let v11 : (List Int) := z6.2.2.2.2.set z6.2.2.2.1.toNat v10
let v12 : Int := IntKind.wrap .i64 (z6.2.2.2.1 + (1 : Int))
self (z6.1, z6.2.1, z6.2.2.1, v12, v11)
else none
else
some (.inl (z6.1, z6.2.1, z6.2.2.1, z6.2.2.2.1, z6.2.2.2.2))
def r26 (f19 : Int → Option (Int)) (f31 : (List Int) → Int → Option (Int)) (f35 : Int → Int → Option (Int)) (lp0 : ((List Int) × Int × Int × Int × (List Int)) → Option (((List Int) × Int × Int × Int × (List Int)) ⊕ ((List Int)))) (a0 : (List Int)) (a1 : Int) : Option ((List Int)) :=
Option.bind (f19 a1) fun y1 =>
if 0 ≤ y1 ∧ y1 ≤ y1 ∧ y1 * (8 : Int) ≤ 140737488355328 ∧ y1 ≤ 140737488355328 then
let v2 : (List Int) := List.replicate y1.toNat (0 : Int)
let v3 : Int := (v2.length : Int)
Option.bind (lp0 (a0, a1, v3, (0 : Int), v2)) fun s4 => onSum s4 (fun y5 =>
some y5.2.2.2.2) (fun o13 => some o13)
else none
-- tatting/vec.width
def r29 (a0 : Int) : Option (Int) :=
let v1 : Int := if (0 : Int) > a0 then (0 : Int) else a0
let v2 : Int := if (1048576 : Int) < v1 then (1048576 : Int) else v1
some v2
-- math/bits.OnesCount64
def r30 (a0 : Int) : Option (Int) :=
if (1 : Int) < 0 then none else
let v1 : Int := a0.fdiv (2 ^ (min (1 : Int).toNat (IntKind.bits .u64)))
let v2 : Int := bitop .and .u64 v1 (6148914691236517205 : Int)
let v3 : Int := bitop .and .u64 a0 (6148914691236517205 : Int)
let v4 : Int := IntKind.wrap .u64 (v2 + v3)
if (2 : Int) < 0 then none else
let v5 : Int := v4.fdiv (2 ^ (min (2 : Int).toNat (IntKind.bits .u64)))
let v6 : Int := bitop .and .u64 v5 (3689348814741910323 : Int)
let v7 : Int := bitop .and .u64 v4 (3689348814741910323 : Int)
let v8 : Int := IntKind.wrap .u64 (v6 + v7)
if (4 : Int) < 0 then none else
let v9 : Int := v8.fdiv (2 ^ (min (4 : Int).toNat (IntKind.bits .u64)))
let v10 : Int := IntKind.wrap .u64 (v9 + v8)
let v11 : Int := bitop .and .u64 v10 (1085102592571150095 : Int)
if (8 : Int) < 0 then none else
let v12 : Int := v11.fdiv (2 ^ (min (8 : Int).toNat (IntKind.bits .u64)))
let v13 : Int := IntKind.wrap .u64 (v11 + v12)
if (16 : Int) < 0 then none else
let v14 : Int := v13.fdiv (2 ^ (min (16 : Int).toNat (IntKind.bits .u64)))
let v15 : Int := IntKind.wrap .u64 (v13 + v14)
if (32 : Int) < 0 then none else
let v16 : Int := v15.fdiv (2 ^ (min (32 : Int).toNat (IntKind.bits .u64)))
let v17 : Int := IntKind.wrap .u64 (v15 + v16)
let v18 : Int := IntKind.wrap .i64 v17
let v19 : Int := bitop .and .i64 v18 (127 : Int)
some v19
-- tatting/vec.at
def r31 (a0 : (List Int)) (a1 : Int) : Option (Int) :=
let v1 : Int := (a0.length : Int)
let v2 : Bool := decide (a1 < v1)
bif v2 then
if 0 ≤ a1 ∧ a1 < (a0.length : Int) then
let v3 : Int := a0.getD a1.toNat (0 : Int)
some v3
else none
else
some (0 : Int)
-- tatting/vec.Not
def F32_0 (f19 : Int → Option (Int)) (f31 : (List Int) → Int → Option (Int)) (f35 : Int → Int → Option (Int)) (self : ((List Int) × Int × Int × Int × (List Int)) → Option (((List Int) × Int × Int × Int × (List Int)) ⊕ ((List Int)))) (z6 : (List Int) × Int × Int × Int × (List Int)) : Option (((List Int) × Int × Int × Int × (List Int)) ⊕ ((List Int))) :=
let v7 : Bool := decide (z6.2.2.2.1 < z6.2.2.1)
bif v7 then
Option.bind (f31 z6.1 z6.2.2.2.1) fun y8 =>
let v9 : Int := bitop .xor .u64 (IntKind.max .u64) y8
Option.bind (f35 z6.2.1 z6.2.2.2.1) fun y10 =>
let v11 : Int := bitop .and .u64 v9 y10
if 0 ≤ z6.2.2.2.1 ∧ z6.2.2.2.1 < (z6.2.2.2.2.length : Int) then
let v12 : (List Int) := z6.2.2.2.2.set z6.2.2.2.1.toNat v11
let v13 : Int := IntKind.wrap .i64 (z6.2.2.2.1 + (1 : Int))
self (z6.1, z6.2.1, z6.2.2.1, v13, v12)
else none
else
some (.inl (z6.1, z6.2.1, z6.2.2.1, z6.2.2.2.1, z6.2.2.2.2))
def r32 (f19 : Int → Option (Int)) (f31 : (List Int) → Int → Option (Int)) (f35 : Int → Int → Option (Int)) (lp0 : ((List Int) × Int × Int × Int × (List Int)) → Option (((List Int) × Int × Int × Int × (List Int)) ⊕ ((List Int)))) (a0 : (List Int)) (a1 : Int) : Option ((List Int)) :=
Option.bind (f19 a1) fun y1 =>
if 0 ≤ y1 ∧ y1 ≤ y1 ∧ y1 * (8 : Int) ≤ 140737488355328 ∧ y1 ≤ 140737488355328 then
let v2 : (List Int) := List.replicate y1.toNat (0 : Int)
let v3 : Int := (v2.length : Int)
Option.bind (lp0 (a0, a1, v3, (0 : Int), v2)) fun s4 => onSum s4 (fun y5 =>
some y5.2.2.2.2) (fun o14 => some o14)
else none
-- tatting/vec.mask
def r35 (f29 : Int → Option (Int)) (a0 : Int) (a1 : Int) : Option (Int) :=
Option.bind (f29 a0) fun y1 =>
let v2 : Int := IntKind.wrap .i64 ((64 : Int) * a1)
let v3 : Int := IntKind.wrap .i64 (y1 - v2)
let v4 : Bool := decide (v3 ≥ (64 : Int))
bif v4 then
some (18446744073709551615 : Int)
else
let v5 : Int := IntKind.wrap .u64 v3
if v5 < 0 then none else
let v6 : Int := IntKind.wrap .u64 ((1 : Int) * 2 ^ (min v5.toNat (IntKind.bits .u64)))
let v7 : Int := IntKind.wrap .u64 (v6 - (1 : Int))
some v7
def g6 (call : CallFn E) : (List Int) → Option (Bool) := fun x0 => call 6 x0
def g7 (call : CallFn E) : (List Int) → Option ((List Int)) := fun x0 => call 7 x0
def g8 (call : CallFn E) : Unit → Option (Bool) := fun _ => call 8 ()
def g9 (call : CallFn E) : (List Int) → Int → Option ((List Int)) := fun x0 x1 => call 9 (x0, x1)
def g10 (call : CallFn E) : (List Int) → Option (Int) := fun x0 => call 10 x0
def g11 (call : CallFn E) : (List Int) → Option (Int) := fun x0 => call 11 x0
def g12 (call : CallFn E) : (List Int) → Option ((List Int)) := fun x0 => call 12 x0
def g13 (call : CallFn E) : (List Int) → (List Int) → Option (Bool) := fun x0 x1 => call 13 (x0, x1)
def g18 (call : CallFn E) : (List Int) → Int → Option ((List Int)) := fun x0 x1 => call 18 (x0, x1)
def g19 (call : CallFn E) : Int → Option (Int) := fun x0 => call 19 x0
def g20 (call : CallFn E) : (List Int) → Int → Option (Int) := fun x0 x1 => call 20 (x0, x1)
def g21 (call : CallFn E) : (List Int) → (List Int) → Option ((List Int)) := fun x0 x1 => call 21 (x0, x1)
def g22 (call : CallFn E) : Int → Option ((List Int)) := fun x0 => call 22 x0
def g26 (call : CallFn E) : (List Int) → Int → Option ((List Int)) := fun x0 x1 => call 26 (x0, x1)
def g29 (call : CallFn E) : Int → Option (Int) := fun x0 => call 29 x0
def g30 (call : CallFn E) : Int → Option (Int) := fun x0 => call 30 x0
def g31 (call : CallFn E) : (List Int) → Int → Option (Int) := fun x0 x1 => call 31 (x0, x1)
def g32 (call : CallFn E) : (List Int) → Int → Option ((List Int)) := fun x0 x1 => call 32 (x0, x1)
def g35 (call : CallFn E) : Int → Int → Option (Int) := fun x0 x1 => call 35 (x0, x1)
def L6_0 : LH := ⟨[3, 4, 5, 6, 7, 8], ⟨[.dat (.slice (.int .i64)), .dat (.ext 0), .dat (.slice (.int .u64)), .dat (.int .i64), .dat (.slice (.int .i64)), .dat (.int .i64)], []⟩, 0⟩
noncomputable def b6_0 : Code := codeAt c6 [1, 1, 1, 1, 1, 1, 1, 1, 1, 0, 1, 0, 0]
noncomputable def lq6_0 (call : CallFn E) (n m : Nat) (y : (List Int) × (List Int) × (List Int) × Int × (List Int) × Int) : Option (((List Int) × (List Int) × (List Int) × Int × (List Int) × Int) ⊕ (Bool)) := loopAt (ctxOf E call n s6 Try.f6 hs6) b6_0 [0, 1, 0, 1, 1, 1, 1, 1, 1, 1, 1, 1] L6_0 m y
theorem lp6_0 (call : CallFn E) (n m : Nat) (y : (List Int) × (List Int) × (List Int) × Int × (List Int) × Int) : lq6_0 call n (m + 1) y = F6_0 (g7 call) (g8 call) (g9 call) (g12 call) (g13 call) (g18 call) (g19 call) (g20 call) (g21 call) (g22 call)  (lq6_0 call n m) y := by kernel_rfl
noncomputable def q6 (call : CallFn E) (n : Nat) (a0 : (List Int)) : Option (Bool) := runHow E call n s6 a0 h6
theorem rr6 (call : CallFn E) (n : Nat) (a0 : (List Int)) : q6 call n a0 = r6 (g7 call) (g8 call) (g9 call) (g12 call) (g13 call) (g18 call) (g19 call) (g20 call) (g21 call) (g22 call) (lq6_0 call n n) a0 := by kernel_rfl
theorem gq6 (n : Nat) (a0 : (List Int)) : g6 (evalF E (n + 1)) a0 = q6 (evalF E n) n a0 := by kernel_rfl
noncomputable def q8 (call : CallFn E) (n : Nat) (_ : Unit) : Option (Bool) := runHow E call n s8 () h8
theorem rr8 (call : CallFn E) (n : Nat) (u : Unit) : q8 call n u = r8 (g7 call) (g9 call) (g10 call) (g11 call) (g12 call)  u := by kernel_rfl
theorem gq8 (n : Nat) (u : Unit) : g8 (evalF E (n + 1)) u = q8 (evalF E n) n u := by kernel_rfl
def L13_0 : LH := ⟨[0, 1, 5], ⟨[.dat (.slice (.int .u64)), .dat (.slice (.int .u64)), .dat (.int .i64)], []⟩, 0⟩
noncomputable def b13_0 : Code := codeAt c13 [1, 1, 0, 1, 0, 0]
noncomputable def lq13_0 (call : CallFn E) (n m : Nat) (y : (List Int) × (List Int) × Int) : Option (((List Int) × (List Int) × Int) ⊕ (Bool)) := loopAt (ctxOf E call n s13 Try.f13 hs13) b13_0 [0, 1, 0, 1, 1] L13_0 m y
theorem lp13_0 (call : CallFn E) (n m : Nat) (y : (List Int) × (List Int) × Int) : lq13_0 call n (m + 1) y = F13_0   (lq13_0 call n m) y := by kernel_rfl
noncomputable def q13 (call : CallFn E) (n : Nat) (a0 : (List Int)) (a1 : (List Int)) : Option (Bool) := runHow E call n s13 (a0, a1) h13
theorem rr13 (call : CallFn E) (n : Nat) (a0 : (List Int)) (a1 : (List Int)) : q13 call n a0 a1 = r13  (lq13_0 call n n) a0 a1 := by kernel_rfl
theorem gq13 (n : Nat) (a0 : (List Int)) (a1 : (List Int)) : g13 (evalF E (n + 1)) a0 a1 = q13 (evalF E n) n a0 a1 := by kernel_rfl
def L18_0 : LH := ⟨[0, 1, 5, 6], ⟨[.dat (.slice (.int .i64)), .dat (.int .i64), .ref 0, .dat (.int .i64)], [.row (.int .i64)]⟩, 0⟩
noncomputable def b18_0 : Code := codeAt c18 [1, 1, 0, 1, 0, 0]
noncomputable def lq18_0 (call : CallFn E) (n m : Nat) (y : (List Int) × Int × Int × (List Int)) : Option (((List Int) × Int × Int × (List Int)) ⊕ ((List Int))) := loopAt (ctxOf E call n s18 Try.f18 hs18) b18_0 [0, 1, 0, 1, 1] L18_0 m y
theorem lp18_0 (call : CallFn E) (n m : Nat) (y : (List Int) × Int × Int × (List Int)) : lq18_0 call n (m + 1) y = F18_0   (lq18_0 call n m) y := by kernel_rfl
noncomputable def q18 (call : CallFn E) (n : Nat) (a0 : (List Int)) (a1 : Int) : Option ((List Int)) := runHow E call n s18 (a0, a1) h18
theorem rr18 (call : CallFn E) (n : Nat) (a0 : (List Int)) (a1 : Int) : q18 call n a0 a1 = r18  (lq18_0 call n n) a0 a1 := by kernel_rfl
theorem gq18 (n : Nat) (a0 : (List Int)) (a1 : Int) : g18 (evalF E (n + 1)) a0 a1 = q18 (evalF E n) n a0 a1 := by kernel_rfl
noncomputable def q19 (call : CallFn E) (n : Nat) (a0 : Int) : Option (Int) := runHow E call n s19 a0 h19
theorem rr19 (call : CallFn E) (n : Nat) (a0 : Int) : q19 call n a0 = r19 (g29 call)  a0 := by kernel_rfl
theorem gq19 (n : Nat) (a0 : Int) : g19 (evalF E (n + 1)) a0 = q19 (evalF E n) n a0 := by kernel_rfl
def L20_0 : LH := ⟨[5, 10, 11, 12], ⟨[.dat (.int .i64), .dat (.slice (.int .u64)), .dat (.int .i64), .dat (.int .i64)], []⟩, 0⟩
noncomputable def b20_0 : Code := codeAt c20 [1, 1, 0, 1, 0, 0]
noncomputable def lq20_0 (call : CallFn E) (n m : Nat) (y : Int × (List Int) × Int × Int) : Option ((Int × (List Int) × Int × Int) ⊕ (Int)) := loopAt (ctxOf E call n s20 Try.f20 hs20) b20_0 [0, 1, 0, 1, 1] L20_0 m y
theorem lp20_0 (call : CallFn E) (n m : Nat) (y : Int × (List Int) × Int × Int) : lq20_0 call n (m + 1) y = F20_0 (g26 call) (g30 call)  (lq20_0 call n m) y := by kernel_rfl
noncomputable def q20 (call : CallFn E) (n : Nat) (a0 : (List Int)) (a1 : Int) : Option (Int) := runHow E call n s20 (a0, a1) h20
theorem rr20 (call : CallFn E) (n : Nat) (a0 : (List Int)) (a1 : Int) : q20 call n a0 a1 = r20 (g26 call) (g30 call) (lq20_0 call n n) a0 a1 := by kernel_rfl
theorem gq20 (n : Nat) (a0 : (List Int)) (a1 : Int) : g20 (evalF E (n + 1)) a0 a1 = q20 (evalF E n) n a0 a1 := by kernel_rfl
def L21_0 : LH := ⟨[0, 1, 5, 14, 15], ⟨[.dat (.slice (.int .u64)), .dat (.slice (.int .u64)), .ref 0, .dat (.int .i64), .dat (.int .i64)], [.row (.int .u64)]⟩, 0⟩
noncomputable def b21_0 : Code := codeAt c21 [1, 1, 0, 1, 0, 0]
noncomputable def lq21_0 (call : CallFn E) (n m : Nat) (y : (List Int) × (List Int) × Int × Int × (List Int)) : Option (((List Int) × (List Int) × Int × Int × (List Int)) ⊕ ((List Int))) := loopAt (ctxOf E call n s21 Try.f21 hs21) b21_0 [0, 1, 0, 1, 1] L21_0 m y
theorem lp21_0 (call : CallFn E) (n m : Nat) (y : (List Int) × (List Int) × Int × Int × (List Int)) : lq21_0 call n (m + 1) y = F21_0 (g31 call)  (lq21_0 call n m) y := by kernel_rfl
noncomputable def q21 (call : CallFn E) (n : Nat) (a0 : (List Int)) (a1 : (List Int)) : Option ((List Int)) := runHow E call n s21 (a0, a1) h21
theorem rr21 (call : CallFn E) (n : Nat) (a0 : (List Int)) (a1 : (List Int)) : q21 call n a0 a1 = r21 (g31 call) (lq21_0 call n n) a0 a1 := by kernel_rfl
theorem gq21 (n : Nat) (a0 : (List Int)) (a1 : (List Int)) : g21 (evalF E (n + 1)) a0 a1 = q21 (evalF E n) n a0 a1 := by kernel_rfl
noncomputable def q22 (call : CallFn E) (n : Nat) (a0 : Int) : Option ((List Int)) := runHow E call n s22 a0 h22
theorem rr22 (call : CallFn E) (n : Nat) (a0 : Int) : q22 call n a0 = r22 (g32 call)  a0 := by kernel_rfl
theorem gq22 (n : Nat) (a0 : Int) : g22 (evalF E (n + 1)) a0 = q22 (evalF E n) n a0 := by kernel_rfl
def L26_0 : LH := ⟨[0, 1, 5, 11, 12], ⟨[.dat (.slice (.int .u64)), .dat (.int .i64), .ref 0, .dat (.int .i64), .dat (.int .i64)], [.row (.int .u64)]⟩, 0⟩
noncomputable def b26_0 : Code := codeAt c26 [1, 1, 0, 1, 0, 0]
noncomputable def lq26_0 (call : CallFn E) (n m : Nat) (y : (List Int) × Int × Int × Int × (List Int)) : Option (((List Int) × Int × Int × Int × (List Int)) ⊕ ((List Int))) := loopAt (ctxOf E call n s26 Try.f26 hs26) b26_0 [0, 1, 0, 1, 1] L26_0 m y
theorem lp26_0 (call : CallFn E) (n m : Nat) (y : (List Int) × Int × Int × Int × (List Int)) : lq26_0 call n (m + 1) y = F26_0 (g19 call) (g31 call) (g35 call)  (lq26_0 call n m) y := by kernel_rfl
noncomputable def q26 (call : CallFn E) (n : Nat) (a0 : (List Int)) (a1 : Int) : Option ((List Int)) := runHow E call n s26 (a0, a1) h26
theorem rr26 (call : CallFn E) (n : Nat) (a0 : (List Int)) (a1 : Int) : q26 call n a0 a1 = r26 (g19 call) (g31 call) (g35 call) (lq26_0 call n n) a0 a1 := by kernel_rfl
theorem gq26 (n : Nat) (a0 : (List Int)) (a1 : Int) : g26 (evalF E (n + 1)) a0 a1 = q26 (evalF E n) n a0 a1 := by kernel_rfl
noncomputable def q29 (call : CallFn E) (n : Nat) (a0 : Int) : Option (Int) := runHow E call n s29 a0 h29
theorem rr29 (call : CallFn E) (n : Nat) (a0 : Int) : q29 call n a0 = r29   a0 := by kernel_rfl
theorem gq29 (n : Nat) (a0 : Int) : g29 (evalF E (n + 1)) a0 = q29 (evalF E n) n a0 := by kernel_rfl
noncomputable def q30 (call : CallFn E) (n : Nat) (a0 : Int) : Option (Int) := runHow E call n s30 a0 h30
theorem rr30 (call : CallFn E) (n : Nat) (a0 : Int) : q30 call n a0 = r30   a0 := by kernel_rfl
theorem gq30 (n : Nat) (a0 : Int) : g30 (evalF E (n + 1)) a0 = q30 (evalF E n) n a0 := by kernel_rfl
noncomputable def q31 (call : CallFn E) (n : Nat) (a0 : (List Int)) (a1 : Int) : Option (Int) := runHow E call n s31 (a0, a1) h31
theorem rr31 (call : CallFn E) (n : Nat) (a0 : (List Int)) (a1 : Int) : q31 call n a0 a1 = r31   a0 a1 := by kernel_rfl
theorem gq31 (n : Nat) (a0 : (List Int)) (a1 : Int) : g31 (evalF E (n + 1)) a0 a1 = q31 (evalF E n) n a0 a1 := by kernel_rfl
def L32_0 : LH := ⟨[0, 1, 5, 11, 12], ⟨[.dat (.slice (.int .u64)), .dat (.int .i64), .ref 0, .dat (.int .i64), .dat (.int .i64)], [.row (.int .u64)]⟩, 0⟩
noncomputable def b32_0 : Code := codeAt c32 [1, 1, 0, 1, 0, 0]
noncomputable def lq32_0 (call : CallFn E) (n m : Nat) (y : (List Int) × Int × Int × Int × (List Int)) : Option (((List Int) × Int × Int × Int × (List Int)) ⊕ ((List Int))) := loopAt (ctxOf E call n s32 Try.f32 hs32) b32_0 [0, 1, 0, 1, 1] L32_0 m y
theorem lp32_0 (call : CallFn E) (n m : Nat) (y : (List Int) × Int × Int × Int × (List Int)) : lq32_0 call n (m + 1) y = F32_0 (g19 call) (g31 call) (g35 call)  (lq32_0 call n m) y := by kernel_rfl
noncomputable def q32 (call : CallFn E) (n : Nat) (a0 : (List Int)) (a1 : Int) : Option ((List Int)) := runHow E call n s32 (a0, a1) h32
theorem rr32 (call : CallFn E) (n : Nat) (a0 : (List Int)) (a1 : Int) : q32 call n a0 a1 = r32 (g19 call) (g31 call) (g35 call) (lq32_0 call n n) a0 a1 := by kernel_rfl
theorem gq32 (n : Nat) (a0 : (List Int)) (a1 : Int) : g32 (evalF E (n + 1)) a0 a1 = q32 (evalF E n) n a0 a1 := by kernel_rfl
noncomputable def q35 (call : CallFn E) (n : Nat) (a0 : Int) (a1 : Int) : Option (Int) := runHow E call n s35 (a0, a1) h35
theorem rr35 (call : CallFn E) (n : Nat) (a0 : Int) (a1 : Int) : q35 call n a0 a1 = r35 (g29 call)  a0 a1 := by kernel_rfl
theorem gq35 (n : Nat) (a0 : Int) (a1 : Int) : g35 (evalF E (n + 1)) a0 a1 = q35 (evalF E n) n a0 a1 := by kernel_rfl
def R7 : Nat → (List Int) → Option ((List Int))
  | 0, _ => none
  | _ + 1, a0 => maskNew a0
theorem e7 (n : Nat) : g7 (evalF E n) = R7 n := by cases n <;> rfl
def R9 : Nat → (List Int) → Int → Option ((List Int))
  | 0, _, _ => none
  | _ + 1, a0, a1 => maskOf (a0, a1)
theorem e9 (n : Nat) : g9 (evalF E n) = R9 n := by cases n <;> rfl
def R10 : Nat → (List Int) → Option (Int)
  | 0, _ => none
  | _ + 1, a0 => MaskX.maskLen a0
theorem e10 (n : Nat) : g10 (evalF E n) = R10 n := by cases n <;> rfl
def R11 : Nat → (List Int) → Option (Int)
  | 0, _ => none
  | _ + 1, a0 => MaskX.maskWordsOf a0
theorem e11 (n : Nat) : g11 (evalF E n) = R11 n := by cases n <;> rfl
def R12 : Nat → (List Int) → Option ((List Int))
  | 0, _ => none
  | _ + 1, a0 => MaskX.maskSyms a0
theorem e12 (n : Nat) : g12 (evalF E n) = R12 n := by cases n <;> rfl
def R8 : Nat → Unit → Option (Bool)
  | 0, _ => none
  | n + 1, u => r8 (R7 n) (R9 n) (R10 n) (R11 n) (R12 n)  u
theorem u8 (n : Nat) (_ : Unit) : R8 (n + 1) () = r8 (R7 n) (R9 n) (R10 n) (R11 n) (R12 n)  () := rfl
theorem e8 : ∀ (n : Nat), g8 (evalF E n) = R8 n
  | 0 => by funext u; rfl
  | n + 1 => by
    funext u
    rw [gq8, rr8]
    simp only [e7 n, e9 n, e10 n, e11 n, e12 n]
    rfl
def R13 : Nat → (List Int) → (List Int) → Option (Bool)
  | 0, _, _ => none
  | n + 1, a0, a1 => r13  (iter (F13_0  ) n) a0 a1
def J13_0 (n m : Nat) : ((List Int) × (List Int) × Int) → Option (((List Int) × (List Int) × Int) ⊕ (Bool)) := iter (F13_0  ) m
theorem j13_0 (n m : Nat) (x : (List Int) × (List Int) × Int) : J13_0 n (m + 1) x = F13_0   (J13_0 n m) x := rfl
theorem u13 (n : Nat) (a0 : (List Int)) (a1 : (List Int)) : R13 (n + 1) a0 a1 = r13  (J13_0 n n) a0 a1 := rfl
theorem e13 : ∀ (n : Nat), g13 (evalF E n) = R13 n
  | 0 => by funext a0 a1; rfl
  | n + 1 => by
    have l0 : lq13_0 (evalF E n) n n = (iter (F13_0  ) n) := iter_of (g := lq13_0 (evalF E n) n) rfl (fun m y => by rw [lp13_0]) n
    funext a0 a1
    rw [gq13, rr13]
    simp only [l0]
    rfl
def R18 : Nat → (List Int) → Int → Option ((List Int))
  | 0, _, _ => none
  | n + 1, a0, a1 => r18  (iter (F18_0  ) n) a0 a1
def J18_0 (n m : Nat) : ((List Int) × Int × Int × (List Int)) → Option (((List Int) × Int × Int × (List Int)) ⊕ ((List Int))) := iter (F18_0  ) m
theorem j18_0 (n m : Nat) (x : (List Int) × Int × Int × (List Int)) : J18_0 n (m + 1) x = F18_0   (J18_0 n m) x := rfl
theorem u18 (n : Nat) (a0 : (List Int)) (a1 : Int) : R18 (n + 1) a0 a1 = r18  (J18_0 n n) a0 a1 := rfl
theorem e18 : ∀ (n : Nat), g18 (evalF E n) = R18 n
  | 0 => by funext a0 a1; rfl
  | n + 1 => by
    have l0 : lq18_0 (evalF E n) n n = (iter (F18_0  ) n) := iter_of (g := lq18_0 (evalF E n) n) rfl (fun m y => by rw [lp18_0]) n
    funext a0 a1
    rw [gq18, rr18]
    simp only [l0]
    rfl
def R29 : Nat → Int → Option (Int)
  | 0, _ => none
  | n + 1, a0 => r29   a0
theorem u29 (n : Nat) (a0 : Int) : R29 (n + 1) a0 = r29   a0 := rfl
theorem e29 : ∀ (n : Nat), g29 (evalF E n) = R29 n
  | 0 => by funext a0; rfl
  | n + 1 => by
    funext a0
    rw [gq29, rr29]
    rfl
def R19 : Nat → Int → Option (Int)
  | 0, _ => none
  | n + 1, a0 => r19 (R29 n)  a0
theorem u19 (n : Nat) (a0 : Int) : R19 (n + 1) a0 = r19 (R29 n)  a0 := rfl
theorem e19 : ∀ (n : Nat), g19 (evalF E n) = R19 n
  | 0 => by funext a0; rfl
  | n + 1 => by
    funext a0
    rw [gq19, rr19]
    simp only [e29 n]
    rfl
def R31 : Nat → (List Int) → Int → Option (Int)
  | 0, _, _ => none
  | n + 1, a0, a1 => r31   a0 a1
theorem u31 (n : Nat) (a0 : (List Int)) (a1 : Int) : R31 (n + 1) a0 a1 = r31   a0 a1 := rfl
theorem e31 : ∀ (n : Nat), g31 (evalF E n) = R31 n
  | 0 => by funext a0 a1; rfl
  | n + 1 => by
    funext a0 a1
    rw [gq31, rr31]
    rfl
def R35 : Nat → Int → Int → Option (Int)
  | 0, _, _ => none
  | n + 1, a0, a1 => r35 (R29 n)  a0 a1
theorem u35 (n : Nat) (a0 : Int) (a1 : Int) : R35 (n + 1) a0 a1 = r35 (R29 n)  a0 a1 := rfl
theorem e35 : ∀ (n : Nat), g35 (evalF E n) = R35 n
  | 0 => by funext a0 a1; rfl
  | n + 1 => by
    funext a0 a1
    rw [gq35, rr35]
    simp only [e29 n]
    rfl
def R26 : Nat → (List Int) → Int → Option ((List Int))
  | 0, _, _ => none
  | n + 1, a0, a1 => r26 (R19 n) (R31 n) (R35 n) (iter (F26_0 (R19 n) (R31 n) (R35 n) ) n) a0 a1
def J26_0 (n m : Nat) : ((List Int) × Int × Int × Int × (List Int)) → Option (((List Int) × Int × Int × Int × (List Int)) ⊕ ((List Int))) := iter (F26_0 (R19 n) (R31 n) (R35 n) ) m
theorem j26_0 (n m : Nat) (x : (List Int) × Int × Int × Int × (List Int)) : J26_0 n (m + 1) x = F26_0 (R19 n) (R31 n) (R35 n)  (J26_0 n m) x := rfl
theorem u26 (n : Nat) (a0 : (List Int)) (a1 : Int) : R26 (n + 1) a0 a1 = r26 (R19 n) (R31 n) (R35 n) (J26_0 n n) a0 a1 := rfl
theorem e26 : ∀ (n : Nat), g26 (evalF E n) = R26 n
  | 0 => by funext a0 a1; rfl
  | n + 1 => by
    have l0 : lq26_0 (evalF E n) n n = (iter (F26_0 (R19 n) (R31 n) (R35 n) ) n) := iter_of (g := lq26_0 (evalF E n) n) rfl (fun m y => by rw [lp26_0]; simp only [e19 n, e31 n, e35 n]) n
    funext a0 a1
    rw [gq26, rr26]
    simp only [e19 n, e31 n, e35 n, l0]
    rfl
def R30 : Nat → Int → Option (Int)
  | 0, _ => none
  | n + 1, a0 => r30   a0
theorem u30 (n : Nat) (a0 : Int) : R30 (n + 1) a0 = r30   a0 := rfl
theorem e30 : ∀ (n : Nat), g30 (evalF E n) = R30 n
  | 0 => by funext a0; rfl
  | n + 1 => by
    funext a0
    rw [gq30, rr30]
    rfl
def R20 : Nat → (List Int) → Int → Option (Int)
  | 0, _, _ => none
  | n + 1, a0, a1 => r20 (R26 n) (R30 n) (iter (F20_0 (R26 n) (R30 n) ) n) a0 a1
def J20_0 (n m : Nat) : (Int × (List Int) × Int × Int) → Option ((Int × (List Int) × Int × Int) ⊕ (Int)) := iter (F20_0 (R26 n) (R30 n) ) m
theorem j20_0 (n m : Nat) (x : Int × (List Int) × Int × Int) : J20_0 n (m + 1) x = F20_0 (R26 n) (R30 n)  (J20_0 n m) x := rfl
theorem u20 (n : Nat) (a0 : (List Int)) (a1 : Int) : R20 (n + 1) a0 a1 = r20 (R26 n) (R30 n) (J20_0 n n) a0 a1 := rfl
theorem e20 : ∀ (n : Nat), g20 (evalF E n) = R20 n
  | 0 => by funext a0 a1; rfl
  | n + 1 => by
    have l0 : lq20_0 (evalF E n) n n = (iter (F20_0 (R26 n) (R30 n) ) n) := iter_of (g := lq20_0 (evalF E n) n) rfl (fun m y => by rw [lp20_0]; simp only [e26 n, e30 n]) n
    funext a0 a1
    rw [gq20, rr20]
    simp only [e26 n, e30 n, l0]
    rfl
def R21 : Nat → (List Int) → (List Int) → Option ((List Int))
  | 0, _, _ => none
  | n + 1, a0, a1 => r21 (R31 n) (iter (F21_0 (R31 n) ) n) a0 a1
def J21_0 (n m : Nat) : ((List Int) × (List Int) × Int × Int × (List Int)) → Option (((List Int) × (List Int) × Int × Int × (List Int)) ⊕ ((List Int))) := iter (F21_0 (R31 n) ) m
theorem j21_0 (n m : Nat) (x : (List Int) × (List Int) × Int × Int × (List Int)) : J21_0 n (m + 1) x = F21_0 (R31 n)  (J21_0 n m) x := rfl
theorem u21 (n : Nat) (a0 : (List Int)) (a1 : (List Int)) : R21 (n + 1) a0 a1 = r21 (R31 n) (J21_0 n n) a0 a1 := rfl
theorem e21 : ∀ (n : Nat), g21 (evalF E n) = R21 n
  | 0 => by funext a0 a1; rfl
  | n + 1 => by
    have l0 : lq21_0 (evalF E n) n n = (iter (F21_0 (R31 n) ) n) := iter_of (g := lq21_0 (evalF E n) n) rfl (fun m y => by rw [lp21_0]; simp only [e31 n]) n
    funext a0 a1
    rw [gq21, rr21]
    simp only [e31 n, l0]
    rfl
def R32 : Nat → (List Int) → Int → Option ((List Int))
  | 0, _, _ => none
  | n + 1, a0, a1 => r32 (R19 n) (R31 n) (R35 n) (iter (F32_0 (R19 n) (R31 n) (R35 n) ) n) a0 a1
def J32_0 (n m : Nat) : ((List Int) × Int × Int × Int × (List Int)) → Option (((List Int) × Int × Int × Int × (List Int)) ⊕ ((List Int))) := iter (F32_0 (R19 n) (R31 n) (R35 n) ) m
theorem j32_0 (n m : Nat) (x : (List Int) × Int × Int × Int × (List Int)) : J32_0 n (m + 1) x = F32_0 (R19 n) (R31 n) (R35 n)  (J32_0 n m) x := rfl
theorem u32 (n : Nat) (a0 : (List Int)) (a1 : Int) : R32 (n + 1) a0 a1 = r32 (R19 n) (R31 n) (R35 n) (J32_0 n n) a0 a1 := rfl
theorem e32 : ∀ (n : Nat), g32 (evalF E n) = R32 n
  | 0 => by funext a0 a1; rfl
  | n + 1 => by
    have l0 : lq32_0 (evalF E n) n n = (iter (F32_0 (R19 n) (R31 n) (R35 n) ) n) := iter_of (g := lq32_0 (evalF E n) n) rfl (fun m y => by rw [lp32_0]; simp only [e19 n, e31 n, e35 n]) n
    funext a0 a1
    rw [gq32, rr32]
    simp only [e19 n, e31 n, e35 n, l0]
    rfl
def R22 : Nat → Int → Option ((List Int))
  | 0, _ => none
  | n + 1, a0 => r22 (R32 n)  a0
theorem u22 (n : Nat) (a0 : Int) : R22 (n + 1) a0 = r22 (R32 n)  a0 := rfl
theorem e22 : ∀ (n : Nat), g22 (evalF E n) = R22 n
  | 0 => by funext a0; rfl
  | n + 1 => by
    funext a0
    rw [gq22, rr22]
    simp only [e32 n]
    rfl
def R6 : Nat → (List Int) → Option (Bool)
  | 0, _ => none
  | n + 1, a0 => r6 (R7 n) (R8 n) (R9 n) (R12 n) (R13 n) (R18 n) (R19 n) (R20 n) (R21 n) (R22 n) (iter (F6_0 (R7 n) (R8 n) (R9 n) (R12 n) (R13 n) (R18 n) (R19 n) (R20 n) (R21 n) (R22 n) ) n) a0
def J6_0 (n m : Nat) : ((List Int) × (List Int) × (List Int) × Int × (List Int) × Int) → Option (((List Int) × (List Int) × (List Int) × Int × (List Int) × Int) ⊕ (Bool)) := iter (F6_0 (R7 n) (R8 n) (R9 n) (R12 n) (R13 n) (R18 n) (R19 n) (R20 n) (R21 n) (R22 n) ) m
theorem j6_0 (n m : Nat) (x : (List Int) × (List Int) × (List Int) × Int × (List Int) × Int) : J6_0 n (m + 1) x = F6_0 (R7 n) (R8 n) (R9 n) (R12 n) (R13 n) (R18 n) (R19 n) (R20 n) (R21 n) (R22 n)  (J6_0 n m) x := rfl
theorem u6 (n : Nat) (a0 : (List Int)) : R6 (n + 1) a0 = r6 (R7 n) (R8 n) (R9 n) (R12 n) (R13 n) (R18 n) (R19 n) (R20 n) (R21 n) (R22 n) (J6_0 n n) a0 := rfl
theorem e6 : ∀ (n : Nat), g6 (evalF E n) = R6 n
  | 0 => by funext a0; rfl
  | n + 1 => by
    have l0 : lq6_0 (evalF E n) n n = (iter (F6_0 (R7 n) (R8 n) (R9 n) (R12 n) (R13 n) (R18 n) (R19 n) (R20 n) (R21 n) (R22 n) ) n) := iter_of (g := lq6_0 (evalF E n) n) rfl (fun m y => by rw [lp6_0]; simp only [e7 n, e8 n, e9 n, e12 n, e13 n, e18 n, e19 n, e20 n, e21 n, e22 n]) n
    funext a0
    rw [gq6, rr6]
    simp only [e7 n, e8 n, e9 n, e12 n, e13 n, e18 n, e19 n, e20 n, e21 n, e22 n, l0]
    rfl
theorem law_R (n : Nat) (a0 : (List Int)) : runHow E (evalF E n) n s6 a0 h6 = R6 (n + 1) a0 := (gq6 n a0).symm.trans (congrFun (e6 (n + 1)) a0)
theorem okAll : EntriesOK Try.prog MaskX.XM 0 E.fns := ⟨trivial,
  trivial,
  trivial,
  trivial,
  trivial,
  trivial,
  ok6 MaskX.XM,
  fun _ _ _ h => MaskX.New_spec MaskX.sortC MaskX.sortN MaskX.compC MaskX.compN h,
  ok8 MaskX.XM,
  fun _ _ _ h => MaskX.Of_spec h,
  fun _ _ _ h => MaskX.Len_spec h,
  fun _ _ _ h => MaskX.Words_spec h,
  fun _ _ _ h => MaskX.Symbols_spec h,
  ok13 MaskX.XM,
  trivial,
  trivial,
  trivial,
  trivial,
  ok18 MaskX.XM,
  ok19 MaskX.XM,
  ok20 MaskX.XM,
  ok21 MaskX.XM,
  ok22 MaskX.XM,
  trivial,
  trivial,
  trivial,
  ok26 MaskX.XM,
  trivial,
  trivial,
  ok29 MaskX.XM,
  ok30 MaskX.XM,
  ok31 MaskX.XM,
  ok32 MaskX.XM,
  trivial,
  trivial,
  ok35 MaskX.XM, trivial⟩
theorem mixed : Try.prog.follows .mixedOrders = true := by kernel_rfl
theorem calls (n : Nat) : CallOK Try.prog MaskX.XM E (evalF E n) := evalF_sound MaskX.XM_ok tys mixed (entries_fn okAll) n
end Go.Proofs.Ytippdbhefcmebaa.EMaskParts
