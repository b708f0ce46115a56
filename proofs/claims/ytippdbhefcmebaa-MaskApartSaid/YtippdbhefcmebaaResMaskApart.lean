import Derived.Test.YtippdbhefcmebaaProg
import Derived.Test.YtippdbhefcmebaaAeB
import Derived.Test.YtippdbhefcmebaaMaskX
import Derived.Test.YtippdbhefcmebaaMaskX2
import Derived.Test.YtippdbhefcmebaaMaskX3
namespace Go.Proofs.Ytippdbhefcmebaa.EMaskApart
open Go Go.Proofs.Ytippdbhefcmebaa.AE
set_option maxRecDepth 100000
set_option linter.unusedVariables false
-- tatting/tattinglaw6.MaskApart
noncomputable def c5 : Code := match Try.f5.body with | some c => c | none => .skip
def s5 : Sig := ⟨⟨[.dat (.slice (.int .i64)), .dat (.int .i64)], []⟩, ⟨[.dat .bool], []⟩⟩
def hs5 : List (List Nat × LH) := [([0, 1, 0, 1, 1, 1, 1, 1, 1], ⟨[0, 1, 5, 6, 7], ⟨[.dat (.slice (.int .i64)), .dat (.int .i64), .ref 0, .dat (.ext 0), .dat (.int .i64)], [.row (.int .i64)]⟩, 0⟩), ([0, 1, 0, 1, 1, 1, 1, 1, 1, 1, 1], ⟨[0, 1, 6, 8, 9], ⟨[.dat (.slice (.int .i64)), .dat (.int .i64), .dat (.ext 0), .ref 0, .dat (.int .i64)], [.row (.int .u64)]⟩, 2⟩), ([0, 1, 0, 1, 1, 1, 1, 1, 1, 1, 1, 1, 1], ⟨[0, 1, 6, 10, 11], ⟨[.dat (.slice (.int .i64)), .dat (.int .i64), .dat (.ext 0), .ref 0, .dat (.int .i64)], [.row (.int .i64)]⟩, 4⟩)]
noncomputable def h5 : How s5 := .code Try.f5 c5 hs5
-- tatting/tattinglaw6.awake
noncomputable def c8 : Code := match Try.f8.body with | some c => c | none => .skip
def s8 : Sig := ⟨⟨[], []⟩, ⟨[.dat .bool], []⟩⟩
def hs8 : List (List Nat × LH) := []
noncomputable def h8 : How s8 := .code Try.f8 c8 hs8
-- tatting/tattingref5.Same
noncomputable def c13 : Code := match Try.f13.body with | some c => c | none => .skip
def s13 : Sig := ⟨⟨[.dat (.slice (.int .u64)), .dat (.slice (.int .u64))], []⟩, ⟨[.dat .bool], []⟩⟩
def hs13 : List (List Nat × LH) := [([0, 1, 0, 1, 1], ⟨[0, 1, 5], ⟨[.dat (.slice (.int .u64)), .dat (.slice (.int .u64)), .dat (.int .i64)], []⟩, 0⟩)]
noncomputable def h13 : How s13 := .code Try.f13 c13 hs13
-- tatting/tattingref5.Mask
noncomputable def c14 : Code := match Try.f14.body with | some c => c | none => .skip
def s14 : Sig := ⟨⟨[.dat (.slice (.int .i64)), .dat (.int .i64)], []⟩, ⟨[.dat (.slice (.int .u64))], []⟩⟩
def hs14 : List (List Nat × LH) := [([0, 1, 0, 1, 1], ⟨[0, 1, 5, 6], ⟨[.dat (.slice (.int .i64)), .dat (.int .i64), .ref 0, .dat (.int .i64)], [.row .bool]⟩, 0⟩)]
noncomputable def h14 : How s14 := .code Try.f14 c14 hs14
-- tatting/tattingref5.Words
noncomputable def c15 : Code := match Try.f15.body with | some c => c | none => .skip
def s15 : Sig := ⟨⟨[.dat (.int .i64)], []⟩, ⟨[.dat (.int .i64)], []⟩⟩
def hs15 : List (List Nat × LH) := []
noncomputable def h15 : How s15 := .code Try.f15 c15 hs15
-- tatting/tattingref1.SameInts
noncomputable def c16 : Code := match Try.f16.body with | some c => c | none => .skip
def s16 : Sig := ⟨⟨[.dat (.slice (.int .i64)), .dat (.slice (.int .i64))], []⟩, ⟨[.dat .bool], []⟩⟩
def hs16 : List (List Nat × LH) := [([0, 1, 0, 1, 1], ⟨[0, 1, 5], ⟨[.dat (.slice (.int .i64)), .dat (.slice (.int .i64)), .dat (.int .i64)], []⟩, 0⟩)]
noncomputable def h16 : How s16 := .code Try.f16 c16 hs16
-- tatting/tattingref5.Symbols
noncomputable def c17 : Code := match Try.f17.body with | some c => c | none => .skip
def s17 : Sig := ⟨⟨[.dat (.slice (.int .i64))], []⟩, ⟨[.dat (.slice (.int .i64))], []⟩⟩
def hs17 : List (List Nat × LH) := [([0, 0, 1, 0, 0, 1, 0, 0, 1, 0, 1, 1], ⟨[0, 3, 4, 5], ⟨[.dat (.slice (.int .i64)), .ref 0, .dat (.int .i64), .dat (.int .i64)], [.row (.int .i64)]⟩, 2⟩), ([0, 1, 0, 1, 1], ⟨[0, 3, 4], ⟨[.dat (.slice (.int .i64)), .ref 0, .dat (.int .i64)], [.row (.int .i64)]⟩, 0⟩)]
noncomputable def h17 : How s17 := .code Try.f17 c17 hs17
-- tatting/tattingref5.Laid
noncomputable def c27 : Code := match Try.f27.body with | some c => c | none => .skip
def s27 : Sig := ⟨⟨[.dat (.slice .bool), .dat (.int .i64)], []⟩, ⟨[.dat (.slice (.int .u64))], []⟩⟩
def hs27 : List (List Nat × LH) := [([0, 1, 0, 1, 1], ⟨[0, 1, 5, 6], ⟨[.dat (.slice .bool), .dat (.int .i64), .ref 0, .dat (.int .i64)], [.row (.int .u64)]⟩, 0⟩)]
noncomputable def h27 : How s27 := .code Try.f27 c27 hs27
-- tatting/tattingref5.Width
noncomputable def c28 : Code := match Try.f28.body with | some c => c | none => .skip
def s28 : Sig := ⟨⟨[.dat (.int .i64)], []⟩, ⟨[.dat (.int .i64)], []⟩⟩
def hs28 : List (List Nat × LH) := []
noncomputable def h28 : How s28 := .code Try.f28 c28 hs28
-- tatting/mask.New
def s7 : Sig := ⟨⟨[.ref 0], [.row (.int .i64)]⟩, ⟨[.dat (.ext 0)], [.row (.int .i64)]⟩⟩
def h7 : How s7 := .orc (fun _ x => MaskX.maskNewRow x)
-- (*tatting/mask.Masks).Of
def s9 : Sig := ⟨⟨[.dat (.ext 0), .dat (.int .i64)], []⟩, ⟨[.ref 0], [.row (.int .u64)]⟩⟩
def h9 : How s9 := .orc (fun _ x => maskOf x)
-- (*tatting/mask.Masks).Len
def s10 : Sig := ⟨⟨[.dat (.ext 0)], []⟩, ⟨[.dat (.int .i64)], []⟩⟩
def h10 : How s10 := .orc (fun _ x => MaskX.maskLen x)
-- (*tatting/mask.Masks).Words
def s11 : Sig := ⟨⟨[.dat (.ext 0)], []⟩, ⟨[.dat (.int .i64)], []⟩⟩
def h11 : How s11 := .orc (fun _ x => MaskX.maskWordsOf x)
-- (*tatting/mask.Masks).Symbols
def s12 : Sig := ⟨⟨[.dat (.ext 0)], []⟩, ⟨[.ref 0], [.row (.int .i64)]⟩⟩
def h12 : How s12 := .orc (fun _ x => MaskX.maskSyms x)
noncomputable def E : Env := {
  fns := [⟨Sig.none, .none⟩,
    ⟨Sig.none, .none⟩,
    ⟨Sig.none, .none⟩,
    ⟨Sig.none, .none⟩,
    ⟨Sig.none, .none⟩,
    ⟨s5, h5⟩,
    ⟨Sig.none, .none⟩,
    ⟨s7, h7⟩,
    ⟨s8, h8⟩,
    ⟨s9, h9⟩,
    ⟨s10, h10⟩,
    ⟨s11, h11⟩,
    ⟨s12, h12⟩,
    ⟨s13, h13⟩,
    ⟨s14, h14⟩,
    ⟨s15, h15⟩,
    ⟨s16, h16⟩,
    ⟨s17, h17⟩,
    ⟨Sig.none, .none⟩,
    ⟨Sig.none, .none⟩,
    ⟨Sig.none, .none⟩,
    ⟨Sig.none, .none⟩,
    ⟨Sig.none, .none⟩,
    ⟨Sig.none, .none⟩,
    ⟨Sig.none, .none⟩,
    ⟨Sig.none, .none⟩,
    ⟨Sig.none, .none⟩,
    ⟨s27, h27⟩,
    ⟨s28, h28⟩],
  tys := [none,
    none,
    none,
    some ⟨(.int .i64), 0⟩,
    some ⟨.bool, 0⟩,
    none,
    none,
    none,
    none,
    none,
    none,
    none,
    none,
    none,
    none,
    none,
    none,
    none,
    none,
    none,
    none,
    none,
    some ⟨(.slice (.int .i64)), 8⟩,
    some ⟨(.ext 0), 0⟩,
    none,
    none,
    some ⟨(.slice (.int .u64)), 8⟩,
    none,
    some ⟨(.int .u64), 0⟩,
    none,
    none,
    none,
    none,
    none,
    none,
    none,
    none,
    none,
    none,
    none,
    none,
    none,
    none,
    none,
    none,
    some ⟨(.int .u64), 0⟩,
    none,
    some ⟨(.slice .bool), 1⟩,
    none,
    none,
    none,
    none,
    none,
    none,
    none,
    none,
    none,
    none,
    none,
    none,
    none,
    none,
    none,
    none,
    none,
    none,
    none,
    none,
    none,
    none,
    none,
    none,
    none,
    none,
    none,
    none,
    none,
    none,
    none,
    none,
    none,
    none,
    none,
    none,
    none,
    none,
    none,
    none,
    none,
    none] }
theorem tys : tysOK Try.prog E.tys = true := by decide +kernel
theorem ok5 (X : ExtRep) : EntryOK Try.prog X 5 s5 h5 := ⟨Try.func5, rfl, by decide, by decide⟩
theorem ok8 (X : ExtRep) : EntryOK Try.prog X 8 s8 h8 := ⟨Try.func8, rfl, by decide, by decide⟩
theorem ok13 (X : ExtRep) : EntryOK Try.prog X 13 s13 h13 := ⟨Try.func13, rfl, by decide, by decide⟩
theorem ok14 (X : ExtRep) : EntryOK Try.prog X 14 s14 h14 := ⟨Try.func14, rfl, by decide, by decide⟩
theorem ok15 (X : ExtRep) : EntryOK Try.prog X 15 s15 h15 := ⟨Try.func15, rfl, by decide, by decide⟩
theorem ok16 (X : ExtRep) : EntryOK Try.prog X 16 s16 h16 := ⟨Try.func16, rfl, by decide, by decide⟩
theorem ok17 (X : ExtRep) : EntryOK Try.prog X 17 s17 h17 := ⟨Try.func17, rfl, by decide, by decide⟩
theorem ok27 (X : ExtRep) : EntryOK Try.prog X 27 s27 h27 := ⟨Try.func27, rfl, by decide, by decide⟩
theorem ok28 (X : ExtRep) : EntryOK Try.prog X 28 s28 h28 := ⟨Try.func28, rfl, by decide, by decide⟩
-- tatting/tattinglaw6.MaskApart
def F5_0 (f7 : (List Int) → Option ((List Int) × (List Int))) (f8 : Unit → Option (Bool)) (f9 : (List Int) → Int → Option ((List Int))) (f12 : (List Int) → Option ((List Int))) (f13 : (List Int) → (List Int) → Option (Bool)) (f14 : (List Int) → Int → Option ((List Int))) (f16 : (List Int) → (List Int) → Option (Bool)) (f17 : (List Int) → Option ((List Int))) (self : ((List Int) × Int × (List Int) × Int × (List Int)) → Option (((List Int) × Int × (List Int) × Int × (List Int)) ⊕ (Bool))) (z10 : (List Int) × Int × (List Int) × Int × (List Int)) : Option (((List Int) × Int × (List Int) × Int × (List Int)) ⊕ (Bool)) :=
let v11 : Int := (z10.2.2.2.2.length : Int)
let v12 : Bool := decide (z10.2.2.2.1 < v11)
bif v12 then
if 0 ≤ z10.2.2.2.1 ∧ z10.2.2.2.1 < (z10.2.2.2.2.length : Int) then
let v13 : (List Int) := z10.2.2.2.2.set z10.2.2.2.1.toNat z10.2.1
let v14 : Int := IntKind.wrap .i64 (z10.2.2.2.1 + (1 : Int))
self (z10.1, z10.2.1, z10.2.2.1, v14, v13)
else none
else
some (.inl (z10.1, z10.2.1, z10.2.2.1, z10.2.2.2.1, z10.2.2.2.2))
def F5_1 (f7 : (List Int) → Option ((List Int) × (List Int))) (f8 : Unit → Option (Bool)) (f9 : (List Int) → Int → Option ((List Int))) (f12 : (List Int) → Option ((List Int))) (f13 : (List Int) → (List Int) → Option (Bool)) (f14 : (List Int) → Int → Option ((List Int))) (f16 : (List Int) → (List Int) → Option (Bool)) (f17 : (List Int) → Option ((List Int))) (self : ((List Int) × Int × (List Int) × Int × (List Int)) → Option (((List Int) × Int × (List Int) × Int × (List Int)) ⊕ (Bool))) (z19 : (List Int) × Int × (List Int) × Int × (List Int)) : Option (((List Int) × Int × (List Int) × Int × (List Int)) ⊕ (Bool)) :=
let v20 : Int := (z19.2.2.2.2.length : Int)
let v21 : Bool := decide (z19.2.2.2.1 < v20)
bif v21 then
if 0 ≤ z19.2.2.2.1 ∧ z19.2.2.2.1 < (z19.2.2.2.2.length : Int) then
let v22 : (List Int) := z19.2.2.2.2.set z19.2.2.2.1.toNat (85 : Int)
let v23 : Int := IntKind.wrap .i64 (z19.2.2.2.1 + (1 : Int))
self (z19.1, z19.2.1, z19.2.2.1, v23, v22)
else none
else
some (.inl (z19.1, z19.2.1, z19.2.2.1, z19.2.2.2.1, z19.2.2.2.2))
def F5_2 (f7 : (List Int) → Option ((List Int) × (List Int))) (f8 : Unit → Option (Bool)) (f9 : (List Int) → Int → Option ((List Int))) (f12 : (List Int) → Option ((List Int))) (f13 : (List Int) → (List Int) → Option (Bool)) (f14 : (List Int) → Int → Option ((List Int))) (f16 : (List Int) → (List Int) → Option (Bool)) (f17 : (List Int) → Option ((List Int))) (self : ((List Int) × Int × (List Int) × Int × (List Int)) → Option (((List Int) × Int × (List Int) × Int × (List Int)) ⊕ (Bool))) (z28 : (List Int) × Int × (List Int) × Int × (List Int)) : Option (((List Int) × Int × (List Int) × Int × (List Int)) ⊕ (Bool)) :=
let v29 : Int := (z28.2.2.2.2.length : Int)
let v30 : Bool := decide (z28.2.2.2.1 < v29)
bif v30 then
if 0 ≤ z28.2.2.2.1 ∧ z28.2.2.2.1 < (z28.2.2.2.2.length : Int) then
let v31 : (List Int) := z28.2.2.2.2.set z28.2.2.2.1.toNat (3 : Int)
let v32 : Int := IntKind.wrap .i64 (z28.2.2.2.1 + (1 : Int))
self (z28.1, z28.2.1, z28.2.2.1, v32, v31)
else none
else
some (.inl (z28.1, z28.2.1, z28.2.2.1, z28.2.2.2.1, z28.2.2.2.2))
def r5 (f7 : (List Int) → Option ((List Int) × (List Int))) (f8 : Unit → Option (Bool)) (f9 : (List Int) → Int → Option ((List Int))) (f12 : (List Int) → Option ((List Int))) (f13 : (List Int) → (List Int) → Option (Bool)) (f14 : (List Int) → Int → Option ((List Int))) (f16 : (List Int) → (List Int) → Option (Bool)) (f17 : (List Int) → Option ((List Int))) (lp0 : ((List Int) × Int × (List Int) × Int × (List Int)) → Option (((List Int) × Int × (List Int) × Int × (List Int)) ⊕ (Bool))) (lp1 : ((List Int) × Int × (List Int) × Int × (List Int)) → Option (((List Int) × Int × (List Int) × Int × (List Int)) ⊕ (Bool))) (lp2 : ((List Int) × Int × (List Int) × Int × (List Int)) → Option (((List Int) × Int × (List Int) × Int × (List Int)) ⊕ (Bool))) (a0 : (List Int)) (a1 : Int) : Option (Bool) :=
Option.bind (f8 ()) fun y1 =>
let v2 : Bool := !y1
bif v2 then
some false
else
let v3 : Int := (a0.length : Int)
let v4 : Bool := decide (v3 > (100 : Int))
bif v4 then
some true
else
let v5 : (List Int) := ([] : List Int)
if (v5.length + a0.length) * 8 ≤ 140737488355328 ∧ v5.length + a0.length ≤ 140737488355328 then
let v6 : (List Int) := v5 ++ a0
Option.bind (f7 v6) fun y7 =>
Option.bind (lp0 (a0, a1, y7.1, (0 : Int), y7.2)) fun s8 => onSum s8 (fun y9 =>
Option.bind (f9 y9.2.2.1 y9.2.1) fun y16 =>
Option.bind (lp1 (y9.1, y9.2.1, y9.2.2.1, (0 : Int), y16)) fun s17 => onSum s17 (fun y18 =>
Option.bind (f12 y18.2.2.1) fun y25 =>
Option.bind (lp2 (y18.1, y18.2.1, y18.2.2.1, (0 : Int), y25)) fun s26 => onSum s26 (fun y27 =>
Option.bind (f9 y27.2.2.1 y27.2.1) fun y34 =>
Option.bind (f14 y27.1 y27.2.1) fun y35 =>
Option.bind (f13 y34 y35) fun y36 =>
bif y36 == true then
Option.bind (f12 y27.2.2.1) fun y37 =>
Option.bind (f17 y27.1) fun y38 =>
Option.bind (f16 y37 y38) fun y39 =>
some y39
else
some false) (fun o33 => some o33)) (fun o24 => some o24)) (fun o15 => some o15)
else none
-- tatting/tattinglaw6.awake
def r8 (f7 : (List Int) → Option ((List Int) × (List Int))) (f9 : (List Int) → Int → Option ((List Int))) (f10 : (List Int) → Option (Int)) (f11 : (List Int) → Option (Int)) (f12 : (List Int) → Option ((List Int))) (_ : Unit) : Option (Bool) :=
let v1 : (List Int) := ([(7 : Int), (5 : Int), (7 : Int)] : List Int)
Option.bind (f7 v1) fun y2 =>
Option.bind (f9 y2.1 (7 : Int)) fun y3 =>
let v4 : Int := (y3.length : Int)
let v5 : Bool := decide (v4 = (1 : Int))
bif v5 == true then
if 0 ≤ (0 : Int) ∧ (0 : Int) < (y3.length : Int) then
let v6 : Int := (y3.getD (0 : Int).toNat (0 : Int))
let v7 : Bool := decide (v6 = (5 : Int))
bif v7 == true then
Option.bind (f10 y2.1) fun y8 =>
let v9 : Bool := decide (y8 = (3 : Int))
bif v9 == true then
Option.bind (f11 y2.1) fun y10 =>
let v11 : Bool := decide (y10 = (1 : Int))
bif v11 == true then
Option.bind (f12 y2.1) fun y12 =>
let v13 : Int := (y12.length : Int)
let v14 : Bool := decide (v13 = (2 : Int))
some v14
else
some false
else
some false
else
some false
else none
else
some false
-- tatting/tattingref5.Same
def F13_0 (self : ((List Int) × (List Int) × Int) → Option (((List Int) × (List Int) × Int) ⊕ (Bool))) (z6 : (List Int) × (List Int) × Int) : Option (((List Int) × (List Int) × Int) ⊕ (Bool)) :=
let v7 : Int := (z6.1.length : Int)
let v8 : Bool := decide (z6.2.2 < v7)
bif v8 then
if 0 ≤ z6.2.2 ∧ z6.2.2 < (z6.1.length : Int) then
let v9 : Int := z6.1.getD z6.2.2.toNat (0 : Int)
if 0 ≤ z6.2.2 ∧ z6.2.2 < (z6.2.1.length : Int) then
let v10 : Int := z6.2.1.getD z6.2.2.toNat (0 : Int)
let v11 : Bool := !decide (v9 = v10)
bif v11 then
some (.inr false)
else
let v12 : Int := IntKind.wrap .i64 (z6.2.2 + (1 : Int))
self (z6.1, z6.2.1, v12)
else none
else none
else
some (.inl (z6.1, z6.2.1, z6.2.2))
def r13 (lp0 : ((List Int) × (List Int) × Int) → Option (((List Int) × (List Int) × Int) ⊕ (Bool))) (a0 : (List Int)) (a1 : (List Int)) : Option (Bool) :=
let v1 : Int := (a0.length : Int)
let v2 : Int := (a1.length : Int)
let v3 : Bool := !decide (v1 = v2)
bif v3 then
some false
else
Option.bind (lp0 (a0, a1, (0 : Int))) fun s4 => onSum s4 (fun y5 =>
some true) (fun o13 => some o13)
-- tatting/tattingref5.Mask
def F14_0 (f15 : Int → Option (Int)) (f27 : (List Bool) → Int → Option ((List Int))) (self : ((List Int) × Int × Int × (List Bool)) → Option (((List Int) × Int × Int × (List Bool)) ⊕ ((List Int)))) (z5 : (List Int) × Int × Int × (List Bool)) : Option (((List Int) × Int × Int × (List Bool)) ⊕ ((List Int))) :=
let v6 : Int := (z5.1.length : Int)
let v7 : Bool := decide (z5.2.2.1 < v6)
bif v7 then
if 0 ≤ z5.2.2.1 ∧ z5.2.2.1 < (z5.1.length : Int) then
let v8 : Int := z5.1.getD z5.2.2.1.toNat (0 : Int)
let v9 : Bool := decide (v8 = z5.2.1)
if 0 ≤ z5.2.2.1 ∧ z5.2.2.1 < (z5.2.2.2.length : Int) then
let v10 : (List Bool) := z5.2.2.2.set z5.2.2.1.toNat v9
let v11 : Int := IntKind.wrap .i64 (z5.2.2.1 + (1 : Int))
self (z5.1, z5.2.1, v11, v10)
else none
else none
else
some (.inl (z5.1, z5.2.1, z5.2.2.1, z5.2.2.2))
def r14 (f15 : Int → Option (Int)) (f27 : (List Bool) → Int → Option ((List Int))) (lp0 : ((List Int) × Int × Int × (List Bool)) → Option (((List Int) × Int × Int × (List Bool)) ⊕ ((List Int)))) (a0 : (List Int)) (a1 : Int) : Option ((List Int)) :=
let v1 : Int := (a0.length : Int)
if 0 ≤ v1 ∧ v1 ≤ v1 ∧ v1 * (1 : Int) ≤ 140737488355328 ∧ v1 ≤ 140737488355328 then
let v2 : (List Bool) := List.replicate v1.toNat false
Option.bind (lp0 (a0, a1, (0 : Int), v2)) fun s3 => onSum s3 (fun y4 =>
let v13 : Int := (y4.1.length : Int)
Option.bind (f15 v13) fun y14 =>
Option.bind (f27 y4.2.2.2 y14) fun y15 =>
some y15) (fun o12 => some o12)
else none
-- tatting/tattingref5.Words
def r15 (f28 : Int → Option (Int)) (a0 : Int) : Option (Int) :=
Option.bind (f28 a0) fun y1 =>
let v2 : Int := IntKind.wrap .i64 (y1 + (63 : Int))
if (64 : Int) = 0 then none else
let v3 : Int := IntKind.wrap .i64 (v2.tdiv (64 : Int))
some v3
-- tatting/tattingref1.SameInts
def F16_0 (self : ((List Int) × (List Int) × Int) → Option (((List Int) × (List Int) × Int) ⊕ (Bool))) (z6 : (List Int) × (List Int) × Int) : Option (((List Int) × (List Int) × Int) ⊕ (Bool)) :=
let v7 : Int := (z6.1.length : Int)
let v8 : Bool := decide (z6.2.2 < v7)
bif v8 then
if 0 ≤ z6.2.2 ∧ z6.2.2 < (z6.1.length : Int) then
let v9 : Int := z6.1.getD z6.2.2.toNat (0 : Int)
if 0 ≤ z6.2.2 ∧ z6.2.2 < (z6.2.1.length : Int) then
let v10 : Int := z6.2.1.getD z6.2.2.toNat (0 : Int)
let v11 : Bool := !decide (v9 = v10)
bif v11 then
some (.inr false)
else
let v12 : Int := IntKind.wrap .i64 (z6.2.2 + (1 : Int))
self (z6.1, z6.2.1, v12)
else none
else none
else
some (.inl (z6.1, z6.2.1, z6.2.2))
def r16 (lp0 : ((List Int) × (List Int) × Int) → Option (((List Int) × (List Int) × Int) ⊕ (Bool))) (a0 : (List Int)) (a1 : (List Int)) : Option (Bool) :=
let v1 : Int := (a0.length : Int)
let v2 : Int := (a1.length : Int)
let v3 : Bool := !decide (v1 = v2)
bif v3 then
some false
else
Option.bind (lp0 (a0, a1, (0 : Int))) fun s4 => onSum s4 (fun y5 =>
some true) (fun o13 => some o13)
-- tatting/tattingref5.Symbols
def F17_0 (self : ((List Int) × Int × Int × (List Int)) → Option (((List Int) × Int × Int × (List Int)) ⊕ ((List Int)))) (z8 : (List Int) × Int × Int × (List Int)) : Option (((List Int) × Int × Int × (List Int)) ⊕ ((List Int))) :=
let v9 : Int := (z8.2.2.2.length : Int)
let v10 : Bool := decide (z8.2.2.1 < v9)
bif v10 == true then
if 0 ≤ z8.2.2.1 ∧ z8.2.2.1 < (z8.2.2.2.length : Int) then
let v11 : Int := (z8.2.2.2.getD z8.2.2.1.toNat (0 : Int))
if 0 ≤ z8.2.1 ∧ z8.2.1 < (z8.1.length : Int) then
let v12 : Int := z8.1.getD z8.2.1.toNat (0 : Int)
let v13 : Bool := decide (v11 < v12)
bif v13 then
let v14 : Int := IntKind.wrap .i64 (z8.2.2.1 + (1 : Int))
self (z8.1, z8.2.1, v14, z8.2.2.2)
else
some (.inl (z8.1, z8.2.1, z8.2.2.1, z8.2.2.2))
else none
else none
else
some (.inl (z8.1, z8.2.1, z8.2.2.1, z8.2.2.2))
def F17_1 (lp0 : ((List Int) × Int × Int × (List Int)) → Option (((List Int) × Int × Int × (List Int)) ⊕ ((List Int)))) (self : ((List Int) × Int × (List Int)) → Option (((List Int) × Int × (List Int)) ⊕ ((List Int)))) (z3 : (List Int) × Int × (List Int)) : Option (((List Int) × Int × (List Int)) ⊕ ((List Int))) :=
let v4 : Int := (z3.1.length : Int)
let v5 : Bool := decide (z3.2.1 < v4)
bif v5 then
Option.bind (lp0 (z3.1, z3.2.1, (0 : Int), z3.2.2)) fun s6 => onSum s6 (fun y7 =>
let v16 : Int := (y7.2.2.2.length : Int)
let v17 : Bool := decide (y7.2.2.1 = v16)
bif v17 == false then
if 0 ≤ y7.2.2.1 ∧ y7.2.2.1 < (y7.2.2.2.length : Int) then
let v18 : Int := (y7.2.2.2.getD y7.2.2.1.toNat (0 : Int))
if 0 ≤ y7.2.1 ∧ y7.2.1 < (y7.1.length : Int) then
let v19 : Int := y7.1.getD y7.2.1.toNat (0 : Int)
let v20 : Bool := !decide (v18 = v19)
bif v20 then
let v21 : (List Int) := ([] : List Int)
if 0 ≤ (0 : Int) ∧ (0 : Int) ≤ y7.2.2.1 ∧ y7.2.2.1 ≤ (y7.2.2.2.length : Int) then
let v22 : (List Int) := cut y7.2.2.2 (0 : Int) y7.2.2.1
if (v21.length + v22.length) * 8 ≤ 140737488355328 ∧ v21.length + v22.length ≤ 140737488355328 then
let v23 : (List Int) := v21 ++ v22
if 0 ≤ y7.2.1 ∧ y7.2.1 < (y7.1.length : Int) then
let v24 : Int := y7.1.getD y7.2.1.toNat (0 : Int)
let v25 : (List Int) := ([v24] : List Int)
if (v23.length + v25.length) * 8 ≤ 140737488355328 ∧ v23.length + v25.length ≤ 140737488355328 then
let v26 : (List Int) := v23 ++ v25
if 0 ≤ y7.2.2.1 ∧ y7.2.2.1 ≤ (y7.2.2.2.length : Int) ∧ (y7.2.2.2.length : Int) ≤ (y7.2.2.2.length : Int) then
let v27 : (List Int) := cut y7.2.2.2 y7.2.2.1 (y7.2.2.2.length : Int)
if (v26.length + v27.length) * 8 ≤ 140737488355328 ∧ v26.length + v27.length ≤ 140737488355328 then
let v28 : (List Int) := v26 ++ v27
let v29 : Int := IntKind.wrap .i64 (y7.2.1 + (1 : Int))
self (y7.1, v29, v28)
else none
else none
else none
else none
else none
else none
else
let v30 : Int := IntKind.wrap .i64 (y7.2.1 + (1 : Int))
self (y7.1, v30, y7.2.2.2)
else none
else none
else
let v31 : (List Int) := ([] : List Int)
if 0 ≤ (0 : Int) ∧ (0 : Int) ≤ y7.2.2.1 ∧ y7.2.2.1 ≤ (y7.2.2.2.length : Int) then
let v32 : (List Int) := cut y7.2.2.2 (0 : Int) y7.2.2.1
if (v31.length + v32.length) * 8 ≤ 140737488355328 ∧ v31.length + v32.length ≤ 140737488355328 then
let v33 : (List Int) := v31 ++ v32
if 0 ≤ y7.2.1 ∧ y7.2.1 < (y7.1.length : Int) then
let v34 : Int := y7.1.getD y7.2.1.toNat (0 : Int)
let v35 : (List Int) := ([v34] : List Int)
if (v33.length + v35.length) * 8 ≤ 140737488355328 ∧ v33.length + v35.length ≤ 140737488355328 then
let v36 : (List Int) := v33 ++ v35
if 0 ≤ y7.2.2.1 ∧ y7.2.2.1 ≤ (y7.2.2.2.length : Int) ∧ (y7.2.2.2.length : Int) ≤ (y7.2.2.2.length : Int) then
let v37 : (List Int) := cut y7.2.2.2 y7.2.2.1 (y7.2.2.2.length : Int)
if (v36.length + v37.length) * 8 ≤ 140737488355328 ∧ v36.length + v37.length ≤ 140737488355328 then
let v38 : (List Int) := v36 ++ v37
let v39 : Int := IntKind.wrap .i64 (y7.2.1 + (1 : Int))
self (y7.1, v39, v38)
else none
else none
else none
else none
else none
else none) (fun o15 => some (.inr o15))
else
some (.inl (z3.1, z3.2.1, z3.2.2))
def r17 (lp0 : ((List Int) × Int × Int × (List Int)) → Option (((List Int) × Int × Int × (List Int)) ⊕ ((List Int)))) (lp1 : ((List Int) × Int × (List Int)) → Option (((List Int) × Int × (List Int)) ⊕ ((List Int)))) (a0 : (List Int)) : Option ((List Int)) :=
Option.bind (lp1 (a0, (0 : Int), ([] : List Int))) fun s1 => onSum s1 (fun y2 =>
some y2.2.2) (fun o40 => some o40)
-- tatting/tattingref5.Laid
def F27_0 (self : ((List Bool) × Int × Int × (List Int)) → Option (((List Bool) × Int × Int × (List Int)) ⊕ ((List Int)))) (z4 : (List Bool) × Int × Int × (List Int)) : Option (((List Bool) × Int × Int × (List Int)) ⊕ ((List Int))) :=
let v5 : Int := (z4.1.length : Int)
let v6 : Bool := decide (z4.2.2.1 < v5)
bif v6 == true then
if (64 : Int) = 0 then none else
let v7 : Int := IntKind.wrap .i64 (z4.2.2.1.tdiv (64 : Int))
let v8 : Bool := decide (v7 < z4.2.1)
bif v8 then
if 0 ≤ z4.2.2.1 ∧ z4.2.2.1 < (z4.1.length : Int) then
let v9 : Bool := z4.1.getD z4.2.2.1.toNat false
bif v9 then
if (64 : Int) = 0 then none else
let v10 : Int := IntKind.wrap .i64 (z4.2.2.1.tdiv (64 : Int))
if (64 : Int) = 0 then none else
let v11 : Int := IntKind.wrap .i64 (z4.2.2.1.tdiv (64 : Int))
if 0 ≤ v11 ∧ v11 < (z4.2.2.2.length : Int) then
let v12 : Int := (z4.2.2.2.getD v11.toNat (0 : Int))
if (64 : Int) = 0 then none else
let v13 : Int := z4.2.2.1.tmod (64 : Int)
let v14 : Int := IntKind.wrap .u64 v13
if v14 < 0 then none else
let v15 : Int := IntKind.wrap .u64 ((1 : Int) * 2 ^ (min v14.toNat (IntKind.bits .u64)))
let v16 : Int := bitop .or .u64 v12 v15
if 0 ≤ v10 ∧ v10 < (z4.2.2.2.length : Int) then
let v17 : (List Int) := z4.2.2.2.set v10.toNat v16
let v18 : Int := IntKind.wrap .i64 (z4.2.2.1 + (1 : Int))
self (z4.1, z4.2.1, v18, v17)
else none
else none
else
let v19 : Int := IntKind.wrap .i64 (z4.2.2.1 + (1 : Int))
self (z4.1, z4.2.1, v19, z4.2.2.2)
else none
else
some (.inl (z4.1, z4.2.1, z4.2.2.1, z4.2.2.2))
else
some (.inl (z4.1, z4.2.1, z4.2.2.1, z4.2.2.2))
def r27 (lp0 : ((List Bool) × Int × Int × (List Int)) → Option (((List Bool) × Int × Int × (List Int)) ⊕ ((List Int)))) (a0 : (List Bool)) (a1 : Int) : Option ((List Int)) :=
if 0 ≤ a1 ∧ a1 ≤ a1 ∧ a1 * (8 : Int) ≤ 140737488355328 ∧ a1 ≤ 140737488355328 then
let v1 : (List Int) := List.replicate a1.toNat (0 : Int)
Option.bind (lp0 (a0, a1, (0 : Int), v1)) fun s2 => onSum s2 (fun y3 =>
some y3.2.2.2) (fun o20 => some o20)
else none
-- tatting/tattingref5.Width
def r28 (a0 : Int) : Option (Int) :=
let v1 : Bool := decide (a0 < (0 : Int))
bif v1 then
some (0 : Int)
else
let v2 : Bool := decide (a0 > (1048576 : Int))
bif v2 then
some (1048576 : Int)
else
some a0
def g5 (call : CallFn E) : (List Int) → Int → Option (Bool) := fun x0 x1 => call 5 (x0, x1)
def g7 (call : CallFn E) : (List Int) → Option ((List Int) × (List Int)) := fun x0 => call 7 x0
def g8 (call : CallFn E) : Unit → Option (Bool) := fun _ => call 8 ()
def g9 (call : CallFn E) : (List Int) → Int → Option ((List Int)) := fun x0 x1 => call 9 (x0, x1)
def g10 (call : CallFn E) : (List Int) → Option (Int) := fun x0 => call 10 x0
def g11 (call : CallFn E) : (List Int) → Option (Int) := fun x0 => call 11 x0
def g12 (call : CallFn E) : (List Int) → Option ((List Int)) := fun x0 => call 12 x0
def g13 (call : CallFn E) : (List Int) → (List Int) → Option (Bool) := fun x0 x1 => call 13 (x0, x1)
def g14 (call : CallFn E) : (List Int) → Int → Option ((List Int)) := fun x0 x1 => call 14 (x0, x1)
def g15 (call : CallFn E) : Int → Option (Int) := fun x0 => call 15 x0
def g16 (call : CallFn E) : (List Int) → (List Int) → Option (Bool) := fun x0 x1 => call 16 (x0, x1)
def g17 (call : CallFn E) : (List Int) → Option ((List Int)) := fun x0 => call 17 x0
def g27 (call : CallFn E) : (List Bool) → Int → Option ((List Int)) := fun x0 x1 => call 27 (x0, x1)
def g28 (call : CallFn E) : Int → Option (Int) := fun x0 => call 28 x0
def L5_0 : LH := ⟨[0, 1, 5, 6, 7], ⟨[.dat (.slice (.int .i64)), .dat (.int .i64), .ref 0, .dat (.ext 0), .dat (.int .i64)], [.row (.int .i64)]⟩, 0⟩
noncomputable def b5_0 : Code := codeAt c5 [1, 1, 1, 1, 1, 1, 0, 1, 0, 0]
noncomputable def lq5_0 (call : CallFn E) (n m : Nat) (y : (List Int) × Int × (List Int) × Int × (List Int)) : Option (((List Int) × Int × (List Int) × Int × (List Int)) ⊕ (Bool)) := loopAt (ctxOf E call n s5 Try.f5 hs5) b5_0 [0, 1, 0, 1, 1, 1, 1, 1, 1] L5_0 m y
def L5_1 : LH := ⟨[0, 1, 6, 8, 9], ⟨[.dat (.slice (.int .i64)), .dat (.int .i64), .dat (.ext 0), .ref 0, .dat (.int .i64)], [.row (.int .u64)]⟩, 2⟩
noncomputable def b5_1 : Code := codeAt c5 [1, 1, 1, 1, 1, 1, 1, 1, 0, 1, 0, 0]
noncomputable def lq5_1 (call : CallFn E) (n m : Nat) (y : (List Int) × Int × (List Int) × Int × (List Int)) : Option (((List Int) × Int × (List Int) × Int × (List Int)) ⊕ (Bool)) := loopAt (ctxOf E call n s5 Try.f5 hs5) b5_1 [0, 1, 0, 1, 1, 1, 1, 1, 1, 1, 1] L5_1 m y
def L5_2 : LH := ⟨[0, 1, 6, 10, 11], ⟨[.dat (.slice (.int .i64)), .dat (.int .i64), .dat (.ext 0), .ref 0, .dat (.int .i64)], [.row (.int .i64)]⟩, 4⟩
noncomputable def b5_2 : Code := codeAt c5 [1, 1, 1, 1, 1, 1, 1, 1, 1, 1, 0, 1, 0, 0]
noncomputable def lq5_2 (call : CallFn E) (n m : Nat) (y : (List Int) × Int × (List Int) × Int × (List Int)) : Option (((List Int) × Int × (List Int) × Int × (List Int)) ⊕ (Bool)) := loopAt (ctxOf E call n s5 Try.f5 hs5) b5_2 [0, 1, 0, 1, 1, 1, 1, 1, 1, 1, 1, 1, 1] L5_2 m y
theorem lp5_2 (call : CallFn E) (n m : Nat) (y : (List Int) × Int × (List Int) × Int × (List Int)) : lq5_2 call n (m + 1) y = F5_2 (g7 call) (g8 call) (g9 call) (g12 call) (g13 call) (g14 call) (g16 call) (g17 call)  (lq5_2 call n m) y := by kernel_rfl
theorem lp5_1 (call : CallFn E) (n m : Nat) (y : (List Int) × Int × (List Int) × Int × (List Int)) : lq5_1 call n (m + 1) y = F5_1 (g7 call) (g8 call) (g9 call) (g12 call) (g13 call) (g14 call) (g16 call) (g17 call)  (lq5_1 call n m) y := by kernel_rfl
theorem lp5_0 (call : CallFn E) (n m : Nat) (y : (List Int) × Int × (List Int) × Int × (List Int)) : lq5_0 call n (m + 1) y = F5_0 (g7 call) (g8 call) (g9 call) (g12 call) (g13 call) (g14 call) (g16 call) (g17 call)  (lq5_0 call n m) y := by kernel_rfl
noncomputable def q5 (call : CallFn E) (n : Nat) (a0 : (List Int)) (a1 : Int) : Option (Bool) := runHow E call n s5 (a0, a1) h5
theorem rr5 (call : CallFn E) (n : Nat) (a0 : (List Int)) (a1 : Int) : q5 call n a0 a1 = r5 (g7 call) (g8 call) (g9 call) (g12 call) (g13 call) (g14 call) (g16 call) (g17 call) (lq5_0 call n n) (lq5_1 call n n) (lq5_2 call n n) a0 a1 := by kernel_rfl
theorem gq5 (n : Nat) (a0 : (List Int)) (a1 : Int) : g5 (evalF E (n + 1)) a0 a1 = q5 (evalF E n) n a0 a1 := by kernel_rfl
noncomputable def q8 (call : CallFn E) (n : Nat) (_ : Unit) : Option (Bool) := runHow E call n s8 () h8
theorem rr8 (call : CallFn E) (n : Nat) (u : Unit) : q8 call n u = r8 (g7 call) (g9 call) (g10 call) (g11 call) (g12 call)  u := by kernel_rfl
theorem gq8 (n : Nat) (u : Unit) : g8 (evalF E (n + 1)) u = q8 (evalF E n) n u := by kernel_rfl
def L13_0 : LH := ⟨[0, 1, 5], ⟨[.dat (.slice (.int .u64)), .dat (.slice (.int .u64)), .dat (.int .i64)], []⟩, 0⟩
noncomputable def b13_0 : Code := codeAt c13 [1, 1, 0, 1, 0, 0]
noncomputable def lq13_0 (call : CallFn E) (n m : Nat) (y : (List Int) × (List Int) × Int) : Option (((List Int) × (List Int) × Int) ⊕ (Bool)) := loopAt (ctxOf E call n s13 Try.f13 hs13) b13_0 [0, 1, 0, 1, 1] L13_0 m y
theorem lp13_0 (call : CallFn E) (n m : Nat) (y : (List Int) × (List Int) × Int) : lq13_0 call n (m + 1) y = F13_0   (lq13_0 call n m) y := by kernel_rfl
noncomputable def q13 (call : CallFn E) (n : Nat) (a0 : (List Int)) (a1 : (List Int)) : Option (Bool) := runHow E call n s13 (a0, a1) h13
theorem rr13 (call : CallFn E) (n : Nat) (a0 : (List Int)) (a1 : (List Int)) : q13 call n a0 a1 = r13  (lq13_0 call n n) a0 a1 := by kernel_rfl
theorem gq13 (n : Nat) (a0 : (List Int)) (a1 : (List Int)) : g13 (evalF E (n + 1)) a0 a1 = q13 (evalF E n) n a0 a1 := by kernel_rfl
def L14_0 : LH := ⟨[0, 1, 5, 6], ⟨[.dat (.slice (.int .i64)), .dat (.int .i64), .ref 0, .dat (.int .i64)], [.row .bool]⟩, 0⟩
noncomputable def b14_0 : Code := codeAt c14 [1, 1, 0, 1, 0, 0]
noncomputable def lq14_0 (call : CallFn E) (n m : Nat) (y : (List Int) × Int × Int × (List Bool)) : Option (((List Int) × Int × Int × (List Bool)) ⊕ ((List Int))) := loopAt (ctxOf E call n s14 Try.f14 hs14) b14_0 [0, 1, 0, 1, 1] L14_0 m y
theorem lp14_0 (call : CallFn E) (n m : Nat) (y : (List Int) × Int × Int × (List Bool)) : lq14_0 call n (m + 1) y = F14_0 (g15 call) (g27 call)  (lq14_0 call n m) y := by kernel_rfl
noncomputable def q14 (call : CallFn E) (n : Nat) (a0 : (List Int)) (a1 : Int) : Option ((List Int)) := runHow E call n s14 (a0, a1) h14
theorem rr14 (call : CallFn E) (n : Nat) (a0 : (List Int)) (a1 : Int) : q14 call n a0 a1 = r14 (g15 call) (g27 call) (lq14_0 call n n) a0 a1 := by kernel_rfl
theorem gq14 (n : Nat) (a0 : (List Int)) (a1 : Int) : g14 (evalF E (n + 1)) a0 a1 = q14 (evalF E n) n a0 a1 := by kernel_rfl
noncomputable def q15 (call : CallFn E) (n : Nat) (a0 : Int) : Option (Int) := runHow E call n s15 a0 h15
theorem rr15 (call : CallFn E) (n : Nat) (a0 : Int) : q15 call n a0 = r15 (g28 call)  a0 := by kernel_rfl
theorem gq15 (n : Nat) (a0 : Int) : g15 (evalF E (n + 1)) a0 = q15 (evalF E n) n a0 := by kernel_rfl
def L16_0 : LH := ⟨[0, 1, 5], ⟨[.dat (.slice (.int .i64)), .dat (.slice (.int .i64)), .dat (.int .i64)], []⟩, 0⟩
noncomputable def b16_0 : Code := codeAt c16 [1, 1, 0, 1, 0, 0]
noncomputable def lq16_0 (call : CallFn E) (n m : Nat) (y : (List Int) × (List Int) × Int) : Option (((List Int) × (List Int) × Int) ⊕ (Bool)) := loopAt (ctxOf E call n s16 Try.f16 hs16) b16_0 [0, 1, 0, 1, 1] L16_0 m y
theorem lp16_0 (call : CallFn E) (n m : Nat) (y : (List Int) × (List Int) × Int) : lq16_0 call n (m + 1) y = F16_0   (lq16_0 call n m) y := by kernel_rfl
noncomputable def q16 (call : CallFn E) (n : Nat) (a0 : (List Int)) (a1 : (List Int)) : Option (Bool) := runHow E call n s16 (a0, a1) h16
theorem rr16 (call : CallFn E) (n : Nat) (a0 : (List Int)) (a1 : (List Int)) : q16 call n a0 a1 = r16  (lq16_0 call n n) a0 a1 := by kernel_rfl
theorem gq16 (n : Nat) (a0 : (List Int)) (a1 : (List Int)) : g16 (evalF E (n + 1)) a0 a1 = q16 (evalF E n) n a0 a1 := by kernel_rfl
def L17_0 : LH := ⟨[0, 3, 4, 5], ⟨[.dat (.slice (.int .i64)), .ref 0, .dat (.int .i64), .dat (.int .i64)], [.row (.int .i64)]⟩, 2⟩
noncomputable def b17_0 : Code := codeAt c17 [1, 1, 0, 1, 0, 0, 1, 0, 0, 1, 0, 0, 0]
noncomputable def lq17_0 (call : CallFn E) (n m : Nat) (y : (List Int) × Int × Int × (List Int)) : Option (((List Int) × Int × Int × (List Int)) ⊕ ((List Int))) := loopAt (ctxOf E call n s17 Try.f17 hs17) b17_0 [0, 0, 1, 0, 0, 1, 0, 0, 1, 0, 1, 1] L17_0 m y
def L17_1 : LH := ⟨[0, 3, 4], ⟨[.dat (.slice (.int .i64)), .ref 0, .dat (.int .i64)], [.row (.int .i64)]⟩, 0⟩
noncomputable def b17_1 : Code := codeAt c17 [1, 1, 0, 1, 0, 0]
noncomputable def lq17_1 (call : CallFn E) (n m : Nat) (y : (List Int) × Int × (List Int)) : Option (((List Int) × Int × (List Int)) ⊕ ((List Int))) := loopAt (ctxOf E call n s17 Try.f17 hs17) b17_1 [0, 1, 0, 1, 1] L17_1 m y
theorem lp17_0 (call : CallFn E) (n m : Nat) (y : (List Int) × Int × Int × (List Int)) : lq17_0 call n (m + 1) y = F17_0   (lq17_0 call n m) y := by kernel_rfl
theorem lp17_1 (call : CallFn E) (n m : Nat) (y : (List Int) × Int × (List Int)) : lq17_1 call n (m + 1) y = F17_1  (lq17_0 call n n) (lq17_1 call n m) y := by kernel_rfl
noncomputable def q17 (call : CallFn E) (n : Nat) (a0 : (List Int)) : Option ((List Int)) := runHow E call n s17 a0 h17
theorem rr17 (call : CallFn E) (n : Nat) (a0 : (List Int)) : q17 call n a0 = r17  (lq17_0 call n n) (lq17_1 call n n) a0 := by kernel_rfl
theorem gq17 (n : Nat) (a0 : (List Int)) : g17 (evalF E (n + 1)) a0 = q17 (evalF E n) n a0 := by kernel_rfl
def L27_0 : LH := ⟨[0, 1, 5, 6], ⟨[.dat (.slice .bool), .dat (.int .i64), .ref 0, .dat (.int .i64)], [.row (.int .u64)]⟩, 0⟩
noncomputable def b27_0 : Code := codeAt c27 [1, 1, 0, 1, 0, 0]
noncomputable def lq27_0 (call : CallFn E) (n m : Nat) (y : (List Bool) × Int × Int × (List Int)) : Option (((List Bool) × Int × Int × (List Int)) ⊕ ((List Int))) := loopAt (ctxOf E call n s27 Try.f27 hs27) b27_0 [0, 1, 0, 1, 1] L27_0 m y
theorem lp27_0 (call : CallFn E) (n m : Nat) (y : (List Bool) × Int × Int × (List Int)) : lq27_0 call n (m + 1) y = F27_0   (lq27_0 call n m) y := by kernel_rfl
noncomputable def q27 (call : CallFn E) (n : Nat) (a0 : (List Bool)) (a1 : Int) : Option ((List Int)) := runHow E call n s27 (a0, a1) h27
theorem rr27 (call : CallFn E) (n : Nat) (a0 : (List Bool)) (a1 : Int) : q27 call n a0 a1 = r27  (lq27_0 call n n) a0 a1 := by kernel_rfl
theorem gq27 (n : Nat) (a0 : (List Bool)) (a1 : Int) : g27 (evalF E (n + 1)) a0 a1 = q27 (evalF E n) n a0 a1 := by kernel_rfl
noncomputable def q28 (call : CallFn E) (n : Nat) (a0 : Int) : Option (Int) := runHow E call n s28 a0 h28
theorem rr28 (call : CallFn E) (n : Nat) (a0 : Int) : q28 call n a0 = r28   a0 := by kernel_rfl
theorem gq28 (n : Nat) (a0 : Int) : g28 (evalF E (n + 1)) a0 = q28 (evalF E n) n a0 := by kernel_rfl
def R7 : Nat → (List Int) → Option ((List Int) × (List Int))
  | 0, _ => none
  | _ + 1, a0 => MaskX.maskNewRow a0
theorem e7 (n : Nat) : g7 (evalF E n) = R7 n := by cases n <;> rfl
def R9 : Nat → (List Int) → Int → Option ((List Int))
  | 0, _, _ => none
  | _ + 1, a0, a1 => maskOf (a0, a1)
theorem e9 (n : Nat) : g9 (evalF E n) = R9 n := by cases n <;> rfl
def R10 : Nat → (List Int) → Option (Int)
  | 0, _ => none
  | _ + 1, a0 => MaskX.maskLen a0
theorem e10 (n : Nat) : g10 (evalF E n) = R10 n := by cases n <;> rfl
def R11 : Nat → (List Int) → Option (Int)
  | 0, _ => none
  | _ + 1, a0 => MaskX.maskWordsOf a0
theorem e11 (n : Nat) : g11 (evalF E n) = R11 n := by cases n <;> rfl
def R12 : Nat → (List Int) → Option ((List Int))
  | 0, _ => none
  | _ + 1, a0 => MaskX.maskSyms a0
theorem e12 (n : Nat) : g12 (evalF E n) = R12 n := by cases n <;> rfl
def R8 : Nat → Unit → Option (Bool)
  | 0, _ => none
  | n + 1, u => r8 (R7 n) (R9 n) (R10 n) (R11 n) (R12 n)  u
theorem u8 (n : Nat) (_ : Unit) : R8 (n + 1) () = r8 (R7 n) (R9 n) (R10 n) (R11 n) (R12 n)  () := rfl
theorem e8 : ∀ (n : Nat), g8 (evalF E n) = R8 n
  | 0 => by funext u; rfl
  | n + 1 => by
    funext u
    rw [gq8, rr8]
    simp only [e7 n, e9 n, e10 n, e11 n, e12 n]
    rfl
def R13 : Nat → (List Int) → (List Int) → Option (Bool)
  | 0, _, _ => none
  | n + 1, a0, a1 => r13  (iter (F13_0  ) n) a0 a1
def J13_0 (n m : Nat) : ((List Int) × (List Int) × Int) → Option (((List Int) × (List Int) × Int) ⊕ (Bool)) := iter (F13_0  ) m
theorem j13_0 (n m : Nat) (x : (List Int) × (List Int) × Int) : J13_0 n (m + 1) x = F13_0   (J13_0 n m) x := rfl
theorem u13 (n : Nat) (a0 : (List Int)) (a1 : (List Int)) : R13 (n + 1) a0 a1 = r13  (J13_0 n n) a0 a1 := rfl
theorem e13 : ∀ (n : Nat), g13 (evalF E n) = R13 n
  | 0 => by funext a0 a1; rfl
  | n + 1 => by
    have l0 : lq13_0 (evalF E n) n n = (iter (F13_0  ) n) := iter_of (g := lq13_0 (evalF E n) n) rfl (fun m y => by rw [lp13_0]) n
    funext a0 a1
    rw [gq13, rr13]
    simp only [l0]
    rfl
def R28 : Nat → Int → Option (Int)
  | 0, _ => none
  | n + 1, a0 => r28   a0
theorem u28 (n : Nat) (a0 : Int) : R28 (n + 1) a0 = r28   a0 := rfl
theorem e28 : ∀ (n : Nat), g28 (evalF E n) = R28 n
  | 0 => by funext a0; rfl
  | n + 1 => by
    funext a0
    rw [gq28, rr28]
    rfl
def R15 : Nat → Int → Option (Int)
  | 0, _ => none
  | n + 1, a0 => r15 (R28 n)  a0
theorem u15 (n : Nat) (a0 : Int) : R15 (n + 1) a0 = r15 (R28 n)  a0 := rfl
theorem e15 : ∀ (n : Nat), g15 (evalF E n) = R15 n
  | 0 => by funext a0; rfl
  | n + 1 => by
    funext a0
    rw [gq15, rr15]
    simp only [e28 n]
    rfl
def R27 : Nat → (List Bool) → Int → Option ((List Int))
  | 0, _, _ => none
  | n + 1, a0, a1 => r27  (iter (F27_0  ) n) a0 a1
def J27_0 (n m : Nat) : ((List Bool) × Int × Int × (List Int)) → Option (((List Bool) × Int × Int × (List Int)) ⊕ ((List Int))) := iter (F27_0  ) m
theorem j27_0 (n m : Nat) (x : (List Bool) × Int × Int × (List Int)) : J27_0 n (m + 1) x = F27_0   (J27_0 n m) x := rfl
theorem u27 (n : Nat) (a0 : (List Bool)) (a1 : Int) : R27 (n + 1) a0 a1 = r27  (J27_0 n n) a0 a1 := rfl
theorem e27 : ∀ (n : Nat), g27 (evalF E n) = R27 n
  | 0 => by funext a0 a1; rfl
  | n + 1 => by
    have l0 : lq27_0 (evalF E n) n n = (iter (F27_0  ) n) := iter_of (g := lq27_0 (evalF E n) n) rfl (fun m y => by rw [lp27_0]) n
    funext a0 a1
    rw [gq27, rr27]
    simp only [l0]
    rfl
def R14 : Nat → (List Int) → Int → Option ((List Int))
  | 0, _, _ => none
  | n + 1, a0, a1 => r14 (R15 n) (R27 n) (iter (F14_0 (R15 n) (R27 n) ) n) a0 a1
def J14_0 (n m : Nat) : ((List Int) × Int × Int × (List Bool)) → Option (((List Int) × Int × Int × (List Bool)) ⊕ ((List Int))) := iter (F14_0 (R15 n) (R27 n) ) m
theorem j14_0 (n m : Nat) (x : (List Int) × Int × Int × (List Bool)) : J14_0 n (m + 1) x = F14_0 (R15 n) (R27 n)  (J14_0 n m) x := rfl
theorem u14 (n : Nat) (a0 : (List Int)) (a1 : Int) : R14 (n + 1) a0 a1 = r14 (R15 n) (R27 n) (J14_0 n n) a0 a1 := rfl
theorem e14 : ∀ (n : Nat), g14 (evalF E n) = R14 n
  | 0 => by funext a0 a1; rfl
  | n + 1 => by
    have l0 : lq14_0 (evalF E n) n n = (iter (F14_0 (R15 n) (R27 n) ) n) := iter_of (g := lq14_0 (evalF E n) n) rfl (fun m y => by rw [lp14_0]; simp only [e15 n, e27 n]) n
    funext a0 a1
    rw [gq14, rr14]
    simp only [e15 n, e27 n, l0]
    rfl
def R16 : Nat → (List Int) → (List Int) → Option (Bool)
  | 0, _, _ => none
  | n + 1, a0, a1 => r16  (iter (F16_0  ) n) a0 a1
def J16_0 (n m : Nat) : ((List Int) × (List Int) × Int) → Option (((List Int) × (List Int) × Int) ⊕ (Bool)) := iter (F16_0  ) m
theorem j16_0 (n m : Nat) (x : (List Int) × (List Int) × Int) : J16_0 n (m + 1) x = F16_0   (J16_0 n m) x := rfl
theorem u16 (n : Nat) (a0 : (List Int)) (a1 : (List Int)) : R16 (n + 1) a0 a1 = r16  (J16_0 n n) a0 a1 := rfl
theorem e16 : ∀ (n : Nat), g16 (evalF E n) = R16 n
  | 0 => by funext a0 a1; rfl
  | n + 1 => by
    have l0 : lq16_0 (evalF E n) n n = (iter (F16_0  ) n) := iter_of (g := lq16_0 (evalF E n) n) rfl (fun m y => by rw [lp16_0]) n
    funext a0 a1
    rw [gq16, rr16]
    simp only [l0]
    rfl
def R17 : Nat → (List Int) → Option ((List Int))
  | 0, _ => none
  | n + 1, a0 => r17  (iter (F17_0  ) n) (iter (F17_1  (iter (F17_0  ) n)) n) a0
def J17_0 (n m : Nat) : ((List Int) × Int × Int × (List Int)) → Option (((List Int) × Int × Int × (List Int)) ⊕ ((List Int))) := iter (F17_0  ) m
theorem j17_0 (n m : Nat) (x : (List Int) × Int × Int × (List Int)) : J17_0 n (m + 1) x = F17_0   (J17_0 n m) x := rfl
def J17_1 (n m : Nat) : ((List Int) × Int × (List Int)) → Option (((List Int) × Int × (List Int)) ⊕ ((List Int))) := iter (F17_1  (J17_0 n n)) m
theorem j17_1 (n m : Nat) (x : (List Int) × Int × (List Int)) : J17_1 n (m + 1) x = F17_1  (J17_0 n n) (J17_1 n m) x := rfl
theorem u17 (n : Nat) (a0 : (List Int)) : R17 (n + 1) a0 = r17  (J17_0 n n) (J17_1 n n) a0 := rfl
theorem e17 : ∀ (n : Nat), g17 (evalF E n) = R17 n
  | 0 => by funext a0; rfl
  | n + 1 => by
    have l0 : lq17_0 (evalF E n) n n = (iter (F17_0  ) n) := iter_of (g := lq17_0 (evalF E n) n) rfl (fun m y => by rw [lp17_0]) n
    have l1 : lq17_1 (evalF E n) n n = (iter (F17_1  (iter (F17_0  ) n)) n) := iter_of (g := lq17_1 (evalF E n) n) rfl (fun m y => by rw [lp17_1]; simp only [l0]) n
    funext a0
    rw [gq17, rr17]
    simp only [l0, l1]
    rfl
def R5 : Nat → (List Int) → Int → Option (Bool)
  | 0, _, _ => none
  | n + 1, a0, a1 => r5 (R7 n) (R8 n) (R9 n) (R12 n) (R13 n) (R14 n) (R16 n) (R17 n) (iter (F5_0 (R7 n) (R8 n) (R9 n) (R12 n) (R13 n) (R14 n) (R16 n) (R17 n) ) n) (iter (F5_1 (R7 n) (R8 n) (R9 n) (R12 n) (R13 n) (R14 n) (R16 n) (R17 n) ) n) (iter (F5_2 (R7 n) (R8 n) (R9 n) (R12 n) (R13 n) (R14 n) (R16 n) (R17 n) ) n) a0 a1
def J5_2 (n m : Nat) : ((List Int) × Int × (List Int) × Int × (List Int)) → Option (((List Int) × Int × (List Int) × Int × (List Int)) ⊕ (Bool)) := iter (F5_2 (R7 n) (R8 n) (R9 n) (R12 n) (R13 n) (R14 n) (R16 n) (R17 n) ) m
theorem j5_2 (n m : Nat) (x : (List Int) × Int × (List Int) × Int × (List Int)) : J5_2 n (m + 1) x = F5_2 (R7 n) (R8 n) (R9 n) (R12 n) (R13 n) (R14 n) (R16 n) (R17 n)  (J5_2 n m) x := rfl
def J5_1 (n m : Nat) : ((List Int) × Int × (List Int) × Int × (List Int)) → Option (((List Int) × Int × (List Int) × Int × (List Int)) ⊕ (Bool)) := iter (F5_1 (R7 n) (R8 n) (R9 n) (R12 n) (R13 n) (R14 n) (R16 n) (R17 n) ) m
theorem j5_1 (n m : Nat) (x : (List Int) × Int × (List Int) × Int × (List Int)) : J5_1 n (m + 1) x = F5_1 (R7 n) (R8 n) (R9 n) (R12 n) (R13 n) (R14 n) (R16 n) (R17 n)  (J5_1 n m) x := rfl
def J5_0 (n m : Nat) : ((List Int) × Int × (List Int) × Int × (List Int)) → Option (((List Int) × Int × (List Int) × Int × (List Int)) ⊕ (Bool)) := iter (F5_0 (R7 n) (R8 n) (R9 n) (R12 n) (R13 n) (R14 n) (R16 n) (R17 n) ) m
theorem j5_0 (n m : Nat) (x : (List Int) × Int × (List Int) × Int × (List Int)) : J5_0 n (m + 1) x = F5_0 (R7 n) (R8 n) (R9 n) (R12 n) (R13 n) (R14 n) (R16 n) (R17 n)  (J5_0 n m) x := rfl
theorem u5 (n : Nat) (a0 : (List Int)) (a1 : Int) : R5 (n + 1) a0 a1 = r5 (R7 n) (R8 n) (R9 n) (R12 n) (R13 n) (R14 n) (R16 n) (R17 n) (J5_0 n n) (J5_1 n n) (J5_2 n n) a0 a1 := rfl
theorem e5 : ∀ (n : Nat), g5 (evalF E n) = R5 n
  | 0 => by funext a0 a1; rfl
  | n + 1 => by
    have l2 : lq5_2 (evalF E n) n n = (iter (F5_2 (R7 n) (R8 n) (R9 n) (R12 n) (R13 n) (R14 n) (R16 n) (R17 n) ) n) := iter_of (g := lq5_2 (evalF E n) n) rfl (fun m y => by rw [lp5_2]; simp only [e7 n, e8 n, e9 n, e12 n, e13 n, e14 n, e16 n, e17 n]) n
    have l1 : lq5_1 (evalF E n) n n = (iter (F5_1 (R7 n) (R8 n) (R9 n) (R12 n) (R13 n) (R14 n) (R16 n) (R17 n) ) n) := iter_of (g := lq5_1 (evalF E n) n) rfl (fun m y => by rw [lp5_1]; simp only [e7 n, e8 n, e9 n, e12 n, e13 n, e14 n, e16 n, e17 n]) n
    have l0 : lq5_0 (evalF E n) n n = (iter (F5_0 (R7 n) (R8 n) (R9 n) (R12 n) (R13 n) (R14 n) (R16 n) (R17 n) ) n) := iter_of (g := lq5_0 (evalF E n) n) rfl (fun m y => by rw [lp5_0]; simp only [e7 n, e8 n, e9 n, e12 n, e13 n, e14 n, e16 n, e17 n]) n
    funext a0 a1
    rw [gq5, rr5]
    simp only [e7 n, e8 n, e9 n, e12 n, e13 n, e14 n, e16 n, e17 n, l0, l1, l2]
    rfl
theorem law_R (n : Nat) (a0 : (List Int)) (a1 : Int) : runHow E (evalF E n) n s5 (a0, a1) h5 = R5 (n + 1) a0 a1 := (gq5 n a0 a1).symm.trans (congrFun (congrFun (e5 (n + 1)) a0) a1)
theorem okAll : EntriesOK Try.prog MaskX.XM 0 E.fns := ⟨trivial,
  trivial,
  trivial,
  trivial,
  trivial,
  ok5 MaskX.XM,
  trivial,
  fun _ _ _ h => MaskX.NewRow_spec2 MaskX.sortC MaskX.sortN MaskX.compC MaskX.compN h,
  ok8 MaskX.XM,
  fun _ _ _ h => MaskX.OfRow_spec h,
  fun _ _ _ h => MaskX.Len_spec h,
  fun _ _ _ h => MaskX.Words_spec h,
  fun _ _ _ h => MaskX.SymsRow_spec h,
  ok13 MaskX.XM,
  ok14 MaskX.XM,
  ok15 MaskX.XM,
  ok16 MaskX.XM,
  ok17 MaskX.XM,
  trivial,
  trivial,
  trivial,
  trivial,
  trivial,
  trivial,
  trivial,
  trivial,
  trivial,
  ok27 MaskX.XM,
  ok28 MaskX.XM, trivial⟩
theorem mixed : Try.prog.follows .mixedOrders = true := by kernel_rfl
theorem calls (n : Nat) : CallOK Try.prog MaskX.XM E (evalF E n) := evalF_sound MaskX.XM_ok tys mixed (entries_fn okAll) n
end Go.Proofs.Ytippdbhefcmebaa.EMaskApart
