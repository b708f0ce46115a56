import Derived.Test.YtanjfijhekhbfaaProg
import Derived.Test.YtanjfijhekhbfaaAeB
import Derived.Test.YtanjfijhekhbfaaNameC
import Derived.Test.YtanjfijhekhbfaaNameR
import Derived.Test.YtanjfijhekhbfaaNameX
namespace Go.Proofs.Ytanjfijhekhbfaa.ENamesOrder
open Go Go.Proofs.Ytanjfijhekhbfaa.AE
set_option maxRecDepth 100000
set_option linter.unusedVariables false
-- tatting/tattinglaw2.NamesOrder
noncomputable def c7 : Code := match Try.f7.body with | some c => c | none => .skip
def s7 : Sig := ⟨⟨[.dat (.slice (.slice (.int .u8))), .dat (.slice (.slice (.int .u8)))], []⟩, ⟨[.dat .bool], []⟩⟩
def hs7 : List (List Nat × LH) := [([0, 1, 0, 0, 1, 0, 0, 1, 0, 1, 1, 1, 1, 1], ⟨[0, 1, 5, 6, 8, 9], ⟨[.dat (.slice (.slice (.int .u8))), .dat (.slice (.slice (.int .u8))), .dat (.slice (.int .i64)), .dat (.slice (.int .i64)), .dat (.int .i64), .dat (.int .i64)], []⟩, 2⟩), ([0, 1, 0, 1, 1, 1, 1, 1], ⟨[0, 1, 5, 6, 8], ⟨[.dat (.slice (.slice (.int .u8))), .dat (.slice (.slice (.int .u8))), .dat (.slice (.int .i64)), .dat (.slice (.int .i64)), .dat (.int .i64)], []⟩, 0⟩)]
noncomputable def h7 : How s7 := .code Try.f7 c7 hs7
-- tatting/names.Sort
noncomputable def c9 : Code := match Try.f9.body with | some c => c | none => .skip
def s9 : Sig := ⟨⟨[.dat (.slice (.slice (.int .u8)))], []⟩, ⟨[.dat (.slice (.slice (.int .u8)))], []⟩⟩
def hs9 : List (List Nat × LH) := [([0, 1, 0, 1, 1, 1, 1, 1], ⟨[4, 16, 17, 18], ⟨[.ref 0, .ref 1, .dat (.int .i64), .dat (.int .i64)], [.row (.slice (.int .u8)), .row (.slice (.int .u8))]⟩, 0⟩)]
noncomputable def h9 : How s9 := .code Try.f9 c9 hs9
-- tatting/names.Find
noncomputable def c10 : Code := match Try.f10.body with | some c => c | none => .skip
def s10 : Sig := ⟨⟨[.dat (.slice (.slice (.int .u8))), .dat (.slice (.int .u8))], []⟩, ⟨[.dat (.int .i64), .dat .bool], []⟩⟩
def hs10 : List (List Nat × LH) := []
noncomputable def h10 : How s10 := .code Try.f10 c10 hs10
-- tatting/names.Ids
noncomputable def c11 : Code := match Try.f11.body with | some c => c | none => .skip
def s11 : Sig := ⟨⟨[.dat (.slice (.slice (.int .u8))), .dat (.slice (.slice (.int .u8)))], []⟩, ⟨[.dat (.slice (.int .i64)), .dat .bool], []⟩⟩
def hs11 : List (List Nat × LH) := [([0, 1, 0, 1, 1], ⟨[0, 6, 14, 15, 16], ⟨[.dat (.slice (.slice (.int .u8))), .ref 0, .dat (.slice (.slice (.int .u8))), .dat (.int .i64), .dat (.int .i64)], [.row (.int .i64)]⟩, 0⟩)]
noncomputable def h11 : How s11 := .code Try.f11 c11 hs11
-- tatting/names.Two
noncomputable def c12 : Code := match Try.f12.body with | some c => c | none => .skip
def s12 : Sig := ⟨⟨[.dat (.slice (.slice (.int .u8))), .dat (.slice (.slice (.int .u8)))], []⟩, ⟨[.dat (.slice (.int .i64)), .dat (.slice (.int .i64)), .dat (.int .i64)], []⟩⟩
def hs12 : List (List Nat × LH) := []
noncomputable def h12 : How s12 := .code Try.f12 c12 hs12
-- tatting/tattinglaw2.awake
noncomputable def c13 : Code := match Try.f13.body with | some c => c | none => .skip
def s13 : Sig := ⟨⟨[], []⟩, ⟨[.dat .bool], []⟩⟩
def hs13 : List (List Nat × LH) := []
noncomputable def h13 : How s13 := .code Try.f13 c13 hs13
-- tatting/tattingref1.SameInts
noncomputable def c14 : Code := match Try.f14.body with | some c => c | none => .skip
def s14 : Sig := ⟨⟨[.dat (.slice (.int .i64)), .dat (.slice (.int .i64))], []⟩, ⟨[.dat .bool], []⟩⟩
def hs14 : List (List Nat × LH) := [([0, 1, 0, 1, 1], ⟨[0, 1, 5], ⟨[.dat (.slice (.int .i64)), .dat (.slice (.int .i64)), .dat (.int .i64)], []⟩, 0⟩)]
noncomputable def h14 : How s14 := .code Try.f14 c14 hs14
-- tatting/tattinglaw2.few
noncomputable def c15 : Code := match Try.f15.body with | some c => c | none => .skip
def s15 : Sig := ⟨⟨[.dat (.slice (.slice (.int .u8)))], []⟩, ⟨[.dat .bool], []⟩⟩
def hs15 : List (List Nat × LH) := [([0, 1, 0, 1, 1], ⟨[0, 3], ⟨[.dat (.slice (.slice (.int .u8))), .dat (.int .i64)], []⟩, 0⟩)]
noncomputable def h15 : How s15 := .code Try.f15 c15 hs15
-- tatting/tattingref1.Same
noncomputable def c21 : Code := match Try.f21.body with | some c => c | none => .skip
def s21 : Sig := ⟨⟨[.dat (.slice (.int .u8)), .dat (.slice (.int .u8))], []⟩, ⟨[.dat .bool], []⟩⟩
def hs21 : List (List Nat × LH) := []
noncomputable def h21 : How s21 := .code Try.f21 c21 hs21
-- tatting/tattingref1.Below
noncomputable def c22 : Code := match Try.f22.body with | some c => c | none => .skip
def s22 : Sig := ⟨⟨[.dat (.slice (.int .u8)), .dat (.slice (.int .u8))], []⟩, ⟨[.dat .bool], []⟩⟩
def hs22 : List (List Nat × LH) := [([0, 1, 0, 1], ⟨[0, 1, 5], ⟨[.dat (.slice (.int .u8)), .dat (.slice (.int .u8)), .dat (.int .i64)], []⟩, 0⟩)]
noncomputable def h22 : How s22 := .code Try.f22 c22 hs22
-- bytes.Compare
noncomputable def c25 : Code := match Try.f25.body with | some c => c | none => .skip
def s25 : Sig := ⟨⟨[.dat (.slice (.int .u8)), .dat (.slice (.int .u8))], []⟩, ⟨[.dat (.int .i64)], []⟩⟩
def hs25 : List (List Nat × LH) := []
noncomputable def h25 : How s25 := .code Try.f25 c25 hs25
-- slices.BinarySearchFunc[[][]byte,[]byte,[]byte]
noncomputable def c29 : Code := match Try.f29.body with | some c => c | none => .skip
def s29 : Sig := ⟨⟨[.dat (.slice (.slice (.int .u8))), .dat (.slice (.int .u8)), .fnc 25], []⟩, ⟨[.dat (.int .i64), .dat .bool], []⟩⟩
def hs29 : List (List Nat × LH) := [([0, 0, 1, 1, 1], ⟨[0, 1, 2, 8, 9, 10], ⟨[.dat (.slice (.slice (.int .u8))), .dat (.slice (.int .u8)), .fnc 25, .dat (.int .i64), .dat (.int .i64), .dat (.int .i64)], []⟩, 0⟩)]
noncomputable def h29 : How s29 := .code Try.f29 c29 hs29
-- slices.Concat[[][]byte,[]byte]
noncomputable def c30 : Code := match Try.f30.body with | some c => c | none => .skip
def s30 : Sig := ⟨⟨[.dat (.slice (.slice (.slice (.int .u8))))], []⟩, ⟨[.dat (.slice (.slice (.int .u8)))], []⟩⟩
def hs30 : List (List Nat × LH) := [([0, 1, 0, 1, 1], ⟨[0, 3, 9, 10, 11], ⟨[.dat (.slice (.slice (.slice (.int .u8)))), .dat (.int .i64), .dat (.slice (.slice (.slice (.int .u8)))), .dat (.int .i64), .dat (.int .i64)], []⟩, 0⟩), ([0, 1, 0, 1, 1, 1, 1], ⟨[6, 25, 26, 27], ⟨[.ref 0, .dat (.slice (.slice (.slice (.int .u8)))), .dat (.int .i64), .dat (.int .i64)], [.row (.slice (.int .u8))]⟩, 2⟩)]
noncomputable def h30 : How s30 := .code Try.f30 c30 hs30
-- slices.Clone[[][]byte,[]byte]
def s23 : Sig := ⟨⟨[.dat (.slice (.slice (.int .u8)))], []⟩, ⟨[.ref 0], [.row (.slice (.int .u8))]⟩⟩
def h23 : How s23 := .orc (fun _ x => NameX.cloneR x)
-- slices.SortFunc[[][]byte,[]byte]
def s24 : Sig := ⟨⟨[.ref 0, .fnc 25], [.row (.slice (.int .u8))]⟩, ⟨[], [.row (.slice (.int .u8))]⟩⟩
def h24 : How s24 := .orc (fun _ x => NameX.sortR x)
-- slices.CompactFunc[[][]byte,[]byte]
def s26 : Sig := ⟨⟨[.ref 0, .fnc 27], [.row (.slice (.int .u8))]⟩, ⟨[.ref 1], [.dead, .row (.slice (.int .u8))]⟩⟩
def h26 : How s26 := .orc (fun _ x => NameX.compactR x)
-- bytes.Clone
def s28 : Sig := ⟨⟨[.dat (.slice (.int .u8))], []⟩, ⟨[.dat (.slice (.int .u8))], []⟩⟩
def h28 : How s28 := .orc (fun _ x => NameX.cloneB x)
-- internal/bytealg.Compare
def s33 : Sig := ⟨⟨[.dat (.slice (.int .u8)), .dat (.slice (.int .u8))], []⟩, ⟨[.dat (.int .i64)], []⟩⟩
def h33 : How s33 := .orc (fun _ x => NameX.cmpB x)
-- slices.Grow[[][]byte,[]byte]
def s34 : Sig := ⟨⟨[.ref 0, .dat (.int .i64)], [.row (.slice (.int .u8))]⟩, ⟨[.ref 1], [.dead, .row (.slice (.int .u8))]⟩⟩
def h34 : How s34 := .orc (fun _ x => NameX.growR x)
noncomputable def E : Env := {
  fns := [⟨Sig.none, .none⟩,
    ⟨Sig.none, .none⟩,
    ⟨Sig.none, .none⟩,
    ⟨Sig.none, .none⟩,
    ⟨Sig.none, .none⟩,
    ⟨Sig.none, .none⟩,
    ⟨Sig.none, .none⟩,
    ⟨s7, h7⟩,
    ⟨Sig.none, .none⟩,
    ⟨s9, h9⟩,
    ⟨s10, h10⟩,
    ⟨s11, h11⟩,
    ⟨s12, h12⟩,
    ⟨s13, h13⟩,
    ⟨s14, h14⟩,
    ⟨s15, h15⟩,
    ⟨Sig.none, .none⟩,
    ⟨Sig.none, .none⟩,
    ⟨Sig.none, .none⟩,
    ⟨Sig.none, .none⟩,
    ⟨Sig.none, .none⟩,
    ⟨s21, h21⟩,
    ⟨s22, h22⟩,
    ⟨s23, h23⟩,
    ⟨s24, h24⟩,
    ⟨s25, h25⟩,
    ⟨s26, h26⟩,
    ⟨Sig.none, .none⟩,
    ⟨s28, h28⟩,
    ⟨s29, h29⟩,
    ⟨s30, h30⟩,
    ⟨Sig.none, .none⟩,
    ⟨Sig.none, .none⟩,
    ⟨s33, h33⟩,
    ⟨s34, h34⟩],
  tys := [none,
    none,
    some ⟨(.int .i64), 0⟩,
    some ⟨(.int .i64), 0⟩,
    some ⟨.bool, 0⟩,
    some ⟨(.int .u8), 0⟩,
    none,
    none,
    none,
    some ⟨.str, 0⟩,
    none,
    none,
    none,
    none,
    none,
    none,
    none,
    none,
    none,
    none,
    none,
    none,
    some ⟨(.slice (.slice (.int .u8))), 24⟩,
    none,
    some ⟨(.slice (.int .u8)), 1⟩,
    none,
    none,
    some ⟨(.slice (.int .i64)), 8⟩,
    none,
    none,
    none,
    none,
    none,
    none,
    none,
    none,
    none,
    none,
    none,
    none,
    none,
    none,
    none,
    none,
    none,
    none,
    none,
    some ⟨(.int .u64), 0⟩,
    some ⟨(.slice (.slice (.slice (.int .u8)))), 24⟩,
    none,
    none,
    none,
    none,
    none,
    none,
    none,
    none,
    none,
    none,
    none,
    none,
    none,
    none,
    none,
    none,
    none,
    none,
    none,
    none,
    none,
    none,
    none,
    none,
    none,
    none,
    none,
    none,
    none,
    none,
    none,
    none,
    none,
    none,
    none,
    none,
    none] }
theorem tys : tysOK Try.prog E.tys = true := by decide +kernel
theorem ok7 (X : ExtRep) : EntryOK Try.prog X 7 s7 h7 := ⟨Try.func7, rfl, by decide, by decide⟩
theorem ok9 (X : ExtRep) : EntryOK Try.prog X 9 s9 h9 := ⟨Try.func9, rfl, by decide, by decide⟩
theorem ok10 (X : ExtRep) : EntryOK Try.prog X 10 s10 h10 := ⟨Try.func10, rfl, by decide, by decide⟩
theorem ok11 (X : ExtRep) : EntryOK Try.prog X 11 s11 h11 := ⟨Try.func11, rfl, by decide, by decide⟩
theorem ok12 (X : ExtRep) : EntryOK Try.prog X 12 s12 h12 := ⟨Try.func12, rfl, by decide, by decide⟩
theorem ok13 (X : ExtRep) : EntryOK Try.prog X 13 s13 h13 := ⟨Try.func13, rfl, by decide, by decide⟩
theorem ok14 (X : ExtRep) : EntryOK Try.prog X 14 s14 h14 := ⟨Try.func14, rfl, by decide, by decide⟩
theorem ok15 (X : ExtRep) : EntryOK Try.prog X 15 s15 h15 := ⟨Try.func15, rfl, by decide, by decide⟩
theorem ok21 (X : ExtRep) : EntryOK Try.prog X 21 s21 h21 := ⟨Try.func21, rfl, by decide, by decide⟩
theorem ok22 (X : ExtRep) : EntryOK Try.prog X 22 s22 h22 := ⟨Try.func22, rfl, by decide, by decide⟩
theorem ok25 (X : ExtRep) : EntryOK Try.prog X 25 s25 h25 := ⟨Try.func25, rfl, by decide, by decide⟩
theorem ok29 (X : ExtRep) : EntryOK Try.prog X 29 s29 h29 := ⟨Try.func29, rfl, by decide, by decide⟩
theorem ok30 (X : ExtRep) : EntryOK Try.prog X 30 s30 h30 := ⟨Try.func30, rfl, by decide, by decide⟩
-- tatting/tattinglaw2.NamesOrder
def F7_0 (f12 : (List (List Int)) → (List (List Int)) → Option ((List Int) × (List Int) × Int)) (f13 : Unit → Option (Bool)) (f15 : (List (List Int)) → Option (Bool)) (f21 : (List Int) → (List Int) → Option (Bool)) (f22 : (List Int) → (List Int) → Option (Bool)) (self : ((List (List Int)) × (List (List Int)) × (List Int) × (List Int) × Int × Int) → Option (((List (List Int)) × (List (List Int)) × (List Int) × (List Int) × Int × Int) ⊕ (Bool))) (z21 : (List (List Int)) × (List (List Int)) × (List Int) × (List Int) × Int × Int) : Option (((List (List Int)) × (List (List Int)) × (List Int) × (List Int) × Int × Int) ⊕ (Bool)) :=
let v22 : Int := (z21.2.1.length : Int)
let v23 : Bool := decide (z21.2.2.2.2.2 < v22)
bif v23 then
if 0 ≤ z21.2.2.2.2.1 ∧ z21.2.2.2.2.1 < (z21.2.2.1.length : Int) then
let v24 : Int := z21.2.2.1.getD z21.2.2.2.2.1.toNat (0 : Int)
if 0 ≤ z21.2.2.2.2.2 ∧ z21.2.2.2.2.2 < (z21.2.2.2.1.length : Int) then
let v25 : Int := z21.2.2.2.1.getD z21.2.2.2.2.2.toNat (0 : Int)
let v26 : Bool := decide (v24 = v25)
if 0 ≤ z21.2.2.2.2.1 ∧ z21.2.2.2.2.1 < (z21.1.length : Int) then
let v27 : (List Int) := z21.1.getD z21.2.2.2.2.1.toNat ([] : List Int)
if 0 ≤ z21.2.2.2.2.2 ∧ z21.2.2.2.2.2 < (z21.2.1.length : Int) then
let v28 : (List Int) := z21.2.1.getD z21.2.2.2.2.2.toNat ([] : List Int)
Option.bind (f21 v27 v28) fun y29 =>
let v30 : Bool := !(v26 == y29)
bif v30 == false then
if 0 ≤ z21.2.2.2.2.1 ∧ z21.2.2.2.2.1 < (z21.2.2.1.length : Int) then
let v31 : Int := z21.2.2.1.getD z21.2.2.2.2.1.toNat (0 : Int)
if 0 ≤ z21.2.2.2.2.2 ∧ z21.2.2.2.2.2 < (z21.2.2.2.1.length : Int) then
let v32 : Int := z21.2.2.2.1.getD z21.2.2.2.2.2.toNat (0 : Int)
let v33 : Bool := decide (v31 < v32)
if 0 ≤ z21.2.2.2.2.1 ∧ z21.2.2.2.2.1 < (z21.1.length : Int) then
let v34 : (List Int) := z21.1.getD z21.2.2.2.2.1.toNat ([] : List Int)
if 0 ≤ z21.2.2.2.2.2 ∧ z21.2.2.2.2.2 < (z21.2.1.length : Int) then
let v35 : (List Int) := z21.2.1.getD z21.2.2.2.2.2.toNat ([] : List Int)
Option.bind (f22 v34 v35) fun y36 =>
let v37 : Bool := !(v33 == y36)
bif v37 then
some (.inr false)
else
let v38 : Int := IntKind.wrap .i64 (z21.2.2.2.2.2 + (1 : Int))
self (z21.1, z21.2.1, z21.2.2.1, z21.2.2.2.1, z21.2.2.2.2.1, v38)
else none
else none
else none
else none
else
some (.inr false)
else none
else none
else none
else none
else
some (.inl (z21.1, z21.2.1, z21.2.2.1, z21.2.2.2.1, z21.2.2.2.2.1, z21.2.2.2.2.2))
def F7_1 (f12 : (List (List Int)) → (List (List Int)) → Option ((List Int) × (List Int) × Int)) (f13 : Unit → Option (Bool)) (f15 : (List (List Int)) → Option (Bool)) (f21 : (List Int) → (List Int) → Option (Bool)) (f22 : (List Int) → (List Int) → Option (Bool)) (lp0 : ((List (List Int)) × (List (List Int)) × (List Int) × (List Int) × Int × Int) → Option (((List (List Int)) × (List (List Int)) × (List Int) × (List Int) × Int × Int) ⊕ (Bool))) (self : ((List (List Int)) × (List (List Int)) × (List Int) × (List Int) × Int) → Option (((List (List Int)) × (List (List Int)) × (List Int) × (List Int) × Int) ⊕ (Bool))) (z16 : (List (List Int)) × (List (List Int)) × (List Int) × (List Int) × Int) : Option (((List (List Int)) × (List (List Int)) × (List Int) × (List Int) × Int) ⊕ (Bool)) :=
let v17 : Int := (z16.1.length : Int)
let v18 : Bool := decide (z16.2.2.2.2 < v17)
bif v18 then
Option.bind (lp0 (z16.1, z16.2.1, z16.2.2.1, z16.2.2.2.1, z16.2.2.2.2, (0 : Int))) fun s19 => onSum s19 (fun y20 =>
let v40 : Int := IntKind.wrap .i64 (y20.2.2.2.2.1 + (1 : Int))
self (y20.1, y20.2.1, y20.2.2.1, y20.2.2.2.1, v40)) (fun o39 => some (.inr o39))
else
some (.inl (z16.1, z16.2.1, z16.2.2.1, z16.2.2.2.1, z16.2.2.2.2))
def r7 (f12 : (List (List Int)) → (List (List Int)) → Option ((List Int) × (List Int) × Int)) (f13 : Unit → Option (Bool)) (f15 : (List (List Int)) → Option (Bool)) (f21 : (List Int) → (List Int) → Option (Bool)) (f22 : (List Int) → (List Int) → Option (Bool)) (lp0 : ((List (List Int)) × (List (List Int)) × (List Int) × (List Int) × Int × Int) → Option (((List (List Int)) × (List (List Int)) × (List Int) × (List Int) × Int × Int) ⊕ (Bool))) (lp1 : ((List (List Int)) × (List (List Int)) × (List Int) × (List Int) × Int) → Option (((List (List Int)) × (List (List Int)) × (List Int) × (List Int) × Int) ⊕ (Bool))) (a0 : (List (List Int))) (a1 : (List (List Int))) : Option (Bool) :=
Option.bind (f13 ()) fun y1 =>
let v2 : Bool := !y1
bif v2 then
some false
else
Option.bind (f15 a0) fun y3 =>
let v4 : Bool := !y3
bif v4 == false then
Option.bind (f15 a1) fun y5 =>
let v6 : Bool := !y5
bif v6 then
some true
else
Option.bind (f12 a0 a1) fun y7 =>
let v8 : Int := (y7.1.length : Int)
let v9 : Int := (a0.length : Int)
let v10 : Bool := !decide (v8 = v9)
bif v10 == false then
let v11 : Int := (y7.2.1.length : Int)
let v12 : Int := (a1.length : Int)
let v13 : Bool := !decide (v11 = v12)
bif v13 then
some false
else
Option.bind (lp1 (a0, a1, y7.1, y7.2.1, (0 : Int))) fun s14 => onSum s14 (fun y15 =>
some true) (fun o41 => some o41)
else
some false
else
some true
-- tatting/names.Sort
def F9_0 (f23 : (List (List Int)) → Option ((List (List Int)))) (f24 : (List (List Int)) → Option ((List (List Int)))) (f26 : (List (List Int)) → Option ((List (List Int)))) (f28 : (List Int) → Option ((List Int))) (self : (Int × Int × (List (List Int)) × (List (List Int))) → Option ((Int × Int × (List (List Int)) × (List (List Int))) ⊕ ((List (List Int))))) (z9 : Int × Int × (List (List Int)) × (List (List Int))) : Option ((Int × Int × (List (List Int)) × (List (List Int))) ⊕ ((List (List Int)))) :=
let v10 : Bool := decide (z9.2.1 < z9.1)
bif v10 then
if 0 ≤ z9.2.1 ∧ z9.2.1 < (z9.2.2.2.length : Int) then
let v11 : (List Int) := (z9.2.2.2.getD z9.2.1.toNat ([] : List Int))
Option.bind (f28 v11) fun y12 =>
if 0 ≤ z9.2.1 ∧ z9.2.1 < (z9.2.2.1.length : Int) then
let v13 : (List (List Int)) := z9.2.2.1.set z9.2.1.toNat y12
let v14 : Int := IntKind.wrap .i64 (z9.2.1 + (1 : Int))
self (z9.1, v14, v13, z9.2.2.2)
else none
else none
else
some (.inl (z9.1, z9.2.1, z9.2.2.1, z9.2.2.2))
def r9 (f23 : (List (List Int)) → Option ((List (List Int)))) (f24 : (List (List Int)) → Option ((List (List Int)))) (f26 : (List (List Int)) → Option ((List (List Int)))) (f28 : (List Int) → Option ((List Int))) (lp0 : (Int × Int × (List (List Int)) × (List (List Int))) → Option ((Int × Int × (List (List Int)) × (List (List Int))) ⊕ ((List (List Int))))) (a0 : (List (List Int))) : Option ((List (List Int))) :=
Option.bind (f23 a0) fun y1 =>
Option.bind (f24 y1) fun y2 =>
Option.bind (f26 y2) fun y3 =>
let v4 : Int := (y3.length : Int)
if 0 ≤ v4 ∧ v4 ≤ v4 ∧ v4 * (24 : Int) ≤ 140737488355328 ∧ v4 ≤ 140737488355328 then
let v5 : (List (List Int)) := List.replicate v4.toNat ([] : List Int)
let v6 : Int := (y3.length : Int)
Option.bind (lp0 (v6, (0 : Int), v5, y3)) fun s7 => onSum s7 (fun y8 =>
some y8.2.2.1) (fun o15 => some o15)
else none
-- tatting/names.Find
def r10 (f29 : (List (List Int)) → (List Int) → Option (Int × Bool)) (a0 : (List (List Int))) (a1 : (List Int)) : Option (Int × Bool) :=
Option.bind (f29 a0 a1) fun y1 =>
let v2 : Bool := !y1.2
bif v2 then
some ((0 : Int), false)
else
some (y1.1, true)
-- tatting/names.Ids
def F11_0 (f10 : (List (List Int)) → (List Int) → Option (Int × Bool)) (self : ((List (List Int)) × (List (List Int)) × Int × Int × (List Int)) → Option (((List (List Int)) × (List (List Int)) × Int × Int × (List Int)) ⊕ ((List Int) × Bool))) (z6 : (List (List Int)) × (List (List Int)) × Int × Int × (List Int)) : Option (((List (List Int)) × (List (List Int)) × Int × Int × (List Int)) ⊕ ((List Int) × Bool)) :=
let v7 : Bool := decide (z6.2.2.2.1 < z6.2.2.1)
bif v7 then
if 0 ≤ z6.2.2.2.1 ∧ z6.2.2.2.1 < (z6.2.1.length : Int) then
let v8 : (List Int) := z6.2.1.getD z6.2.2.2.1.toNat ([] : List Int)
Option.bind (f10 z6.1 v8) fun y9 =>
let v10 : Bool := !y9.2
bif v10 then
some (.inr (([] : List Int), false))
else
if 0 ≤ z6.2.2.2.1 ∧ z6.2.2.2.1 < (z6.2.2.2.2.length : Int) then
let v11 : (List Int) := z6.2.2.2.2.set z6.2.2.2.1.toNat y9.1
let v12 : Int := IntKind.wrap .i64 (z6.2.2.2.1 + (1 : Int))
self (z6.1, z6.2.1, z6.2.2.1, v12, v11)
else none
else none
else
some (.inl (z6.1, z6.2.1, z6.2.2.1, z6.2.2.2.1, z6.2.2.2.2))
def r11 (f10 : (List (List Int)) → (List Int) → Option (Int × Bool)) (lp0 : ((List (List Int)) × (List (List Int)) × Int × Int × (List Int)) → Option (((List (List Int)) × (List (List Int)) × Int × Int × (List Int)) ⊕ ((List Int) × Bool))) (a0 : (List (List Int))) (a1 : (List (List Int))) : Option ((List Int) × Bool) :=
let v1 : Int := (a1.length : Int)
if 0 ≤ v1 ∧ v1 ≤ v1 ∧ v1 * (8 : Int) ≤ 140737488355328 ∧ v1 ≤ 140737488355328 then
let v2 : (List Int) := List.replicate v1.toNat (0 : Int)
let v3 : Int := (a1.length : Int)
Option.bind (lp0 (a0, a1, v3, (0 : Int), v2)) fun s4 => onSum s4 (fun y5 =>
some (y5.2.2.2.2, true)) (fun o13 => some o13)
else none
-- tatting/names.Two
def r12 (f9 : (List (List Int)) → Option ((List (List Int)))) (f11 : (List (List Int)) → (List (List Int)) → Option ((List Int) × Bool)) (f30 : (List (List (List Int))) → Option ((List (List Int)))) (a0 : (List (List Int))) (a1 : (List (List Int))) : Option ((List Int) × (List Int) × Int) :=
let v1 : (List (List (List Int))) := ([a0, a1] : List (List (List Int)))
Option.bind (f30 v1) fun y2 =>
Option.bind (f9 y2) fun y3 =>
Option.bind (f11 y3 a0) fun y4 =>
Option.bind (f11 y3 a1) fun y5 =>
let v6 : Int := (y3.length : Int)
some (y4.1, y5.1, v6)
-- tatting/tattinglaw2.awake
def r13 (f12 : (List (List Int)) → (List (List Int)) → Option ((List Int) × (List Int) × Int)) (f14 : (List Int) → (List Int) → Option (Bool)) (_ : Unit) : Option (Bool) :=
let v1 : (List Int) := ([(98 : Int)] : List Int)
if 0 < v1.length then
let v2 : (List Int) := ([(97 : Int)] : List Int)
if 0 < v2.length then
let v3 : (List (List Int)) := ([v1, v2] : List (List Int))
let v4 : (List Int) := ([(99 : Int)] : List Int)
if 0 < v4.length then
let v5 : (List Int) := ([(98 : Int)] : List Int)
if 0 < v5.length then
let v6 : (List (List Int)) := ([v4, v5] : List (List Int))
Option.bind (f12 v3 v6) fun y7 =>
let v8 : Bool := decide (y7.2.2 = (3 : Int))
bif v8 == true then
let v9 : (List Int) := ([(1 : Int), (0 : Int)] : List Int)
Option.bind (f14 y7.1 v9) fun y10 =>
bif y10 == true then
let v11 : (List Int) := ([(2 : Int), (1 : Int)] : List Int)
Option.bind (f14 y7.2.1 v11) fun y12 =>
some y12
else
some false
else
some false
else none
else none
else none
else none
-- tatting/tattingref1.SameInts
def F14_0 (self : ((List Int) × (List Int) × Int) → Option (((List Int) × (List Int) × Int) ⊕ (Bool))) (z6 : (List Int) × (List Int) × Int) : Option (((List Int) × (List Int) × Int) ⊕ (Bool)) :=
let v7 : Int := (z6.1.length : Int)
let v8 : Bool := decide (z6.2.2 < v7)
bif v8 then
if 0 ≤ z6.2.2 ∧ z6.2.2 < (z6.1.length : Int) then
let v9 : Int := z6.1.getD z6.2.2.toNat (0 : Int)
if 0 ≤ z6.2.2 ∧ z6.2.2 < (z6.2.1.length : Int) then
let v10 : Int := z6.2.1.getD z6.2.2.toNat (0 : Int)
let v11 : Bool := !decide (v9 = v10)
bif v11 then
some (.inr false)
else
let v12 : Int := IntKind.wrap .i64 (z6.2.2 + (1 : Int))
self (z6.1, z6.2.1, v12)
else none
else none
else
some (.inl (z6.1, z6.2.1, z6.2.2))
def r14 (lp0 : ((List Int) × (List Int) × Int) → Option (((List Int) × (List Int) × Int) ⊕ (Bool))) (a0 : (List Int)) (a1 : (List Int)) : Option (Bool) :=
let v1 : Int := (a0.length : Int)
let v2 : Int := (a1.length : Int)
let v3 : Bool := !decide (v1 = v2)
bif v3 then
some false
else
Option.bind (lp0 (a0, a1, (0 : Int))) fun s4 => onSum s4 (fun y5 =>
some true) (fun o13 => some o13)
-- tatting/tattinglaw2.few
def F15_0 (self : ((List (List Int)) × Int) → Option (((List (List Int)) × Int) ⊕ (Bool))) (z5 : (List (List Int)) × Int) : Option (((List (List Int)) × Int) ⊕ (Bool)) :=
let v6 : Int := (z5.1.length : Int)
let v7 : Bool := decide (z5.2 < v6)
bif v7 then
if 0 ≤ z5.2 ∧ z5.2 < (z5.1.length : Int) then
let v8 : (List Int) := z5.1.getD z5.2.toNat ([] : List Int)
let v9 : Int := (v8.length : Int)
let v10 : Bool := decide (v9 > (40 : Int))
bif v10 then
some (.inr false)
else
let v11 : Int := IntKind.wrap .i64 (z5.2 + (1 : Int))
self (z5.1, v11)
else none
else
some (.inl (z5.1, z5.2))
def r15 (lp0 : ((List (List Int)) × Int) → Option (((List (List Int)) × Int) ⊕ (Bool))) (a0 : (List (List Int))) : Option (Bool) :=
let v1 : Int := (a0.length : Int)
let v2 : Bool := decide (v1 > (40 : Int))
bif v2 then
some false
else
Option.bind (lp0 (a0, (0 : Int))) fun s3 => onSum s3 (fun y4 =>
some true) (fun o12 => some o12)
-- tatting/tattingref1.Same
def r21 (a0 : (List Int)) (a1 : (List Int)) : Option (Bool) :=
let v1 : ByteArray := bytesStr a0
let v2 : ByteArray := bytesStr a1
let v3 : Bool := strEq v1 v2
some v3
-- tatting/tattingref1.Below
def F22_0 (self : ((List Int) × (List Int) × Int) → Option (((List Int) × (List Int) × Int) ⊕ (Bool))) (z3 : (List Int) × (List Int) × Int) : Option (((List Int) × (List Int) × Int) ⊕ (Bool)) :=
let v4 : Int := (z3.1.length : Int)
let v5 : Bool := decide (z3.2.2 < v4)
bif v5 == true then
let v6 : Int := (z3.2.1.length : Int)
let v7 : Bool := decide (z3.2.2 < v6)
bif v7 then
if 0 ≤ z3.2.2 ∧ z3.2.2 < (z3.1.length : Int) then
let v8 : Int := z3.1.getD z3.2.2.toNat (0 : Int)
if 0 ≤ z3.2.2 ∧ z3.2.2 < (z3.2.1.length : Int) then
let v9 : Int := z3.2.1.getD z3.2.2.toNat (0 : Int)
let v10 : Bool := !decide (v8 = v9)
bif v10 then
if 0 ≤ z3.2.2 ∧ z3.2.2 < (z3.1.length : Int) then
let v11 : Int := z3.1.getD z3.2.2.toNat (0 : Int)
if 0 ≤ z3.2.2 ∧ z3.2.2 < (z3.2.1.length : Int) then
let v12 : Int := z3.2.1.getD z3.2.2.toNat (0 : Int)
let v13 : Bool := decide (v11 < v12)
some (.inr v13)
else none
else none
else
let v14 : Int := IntKind.wrap .i64 (z3.2.2 + (1 : Int))
self (z3.1, z3.2.1, v14)
else none
else none
else
some (.inl (z3.1, z3.2.1, z3.2.2))
else
some (.inl (z3.1, z3.2.1, z3.2.2))
def r22 (lp0 : ((List Int) × (List Int) × Int) → Option (((List Int) × (List Int) × Int) ⊕ (Bool))) (a0 : (List Int)) (a1 : (List Int)) : Option (Bool) :=
Option.bind (lp0 (a0, a1, (0 : Int))) fun s1 => onSum s1 (fun y2 =>
let v16 : Int := (y2.1.length : Int)
let v17 : Int := (y2.2.1.length : Int)
let v18 : Bool := decide (v16 < v17)
some v18) (fun o15 => some o15)
-- bytes.Compare
def r25 (f33 : (List Int) → (List Int) → Option (Int)) (a0 : (List Int)) (a1 : (List Int)) : Option (Int) :=
Option.bind (f33 a0 a1) fun y1 =>
some y1
-- slices.BinarySearchFunc[[][]byte,[]byte,[]byte]
def F29_0 (f25 : (List Int) → (List Int) → Option (Int)) (self : ((List (List Int)) × (List Int) × Int × Int × Int) → Option (((List (List Int)) × (List Int) × Int × Int × Int) ⊕ (Int × Bool))) (z4 : (List (List Int)) × (List Int) × Int × Int × Int) : Option (((List (List Int)) × (List Int) × Int × Int × Int) ⊕ (Int × Bool)) :=
let v5 : Bool := decide (z4.2.2.2.1 < z4.2.2.2.2)
bif v5 then
let v6 : Int := IntKind.wrap .i64 (z4.2.2.2.1 + z4.2.2.2.2)
let v7 : Int := IntKind.wrap .u64 v6
if (1 : Int) < 0 then none else
let v8 : Int := v7.fdiv (2 ^ (min (1 : Int).toNat (IntKind.bits .u64)))
let v9 : Int := IntKind.wrap .i64 v8
if 0 ≤ v9 ∧ v9 < (z4.1.length : Int) then
let v10 : (List Int) := z4.1.getD v9.toNat ([] : List Int)
Option.bind (f25 v10 z4.2.1) fun y11 =>
let v12 : Bool := decide (y11 < (0 : Int))
bif v12 then
let v13 : Int := IntKind.wrap .i64 (v9 + (1 : Int))
self (z4.1, z4.2.1, z4.2.2.1, v13, z4.2.2.2.2)
else
self (z4.1, z4.2.1, z4.2.2.1, z4.2.2.2.1, v9)
else none
else
some (.inl (z4.1, z4.2.1, z4.2.2.1, z4.2.2.2.1, z4.2.2.2.2))
def r29 (f25 : (List Int) → (List Int) → Option (Int)) (lp0 : ((List (List Int)) × (List Int) × Int × Int × Int) → Option (((List (List Int)) × (List Int) × Int × Int × Int) ⊕ (Int × Bool))) (a0 : (List (List Int))) (a1 : (List Int)) : Option (Int × Bool) :=
let v1 : Int := (a0.length : Int)
Option.bind (lp0 (a0, a1, v1, (0 : Int), v1)) fun s2 => onSum s2 (fun y3 =>
let v15 : Bool := decide (y3.2.2.2.1 < y3.2.2.1)
bif v15 == true then
if 0 ≤ y3.2.2.2.1 ∧ y3.2.2.2.1 < (y3.1.length : Int) then
let v16 : (List Int) := y3.1.getD y3.2.2.2.1.toNat ([] : List Int)
Option.bind (f25 v16 y3.2.1) fun y17 =>
let v18 : Bool := decide (y17 = (0 : Int))
some (y3.2.2.2.1, v18)
else none
else
some (y3.2.2.2.1, false)) (fun o14 => some o14)
-- slices.Concat[[][]byte,[]byte]
def F30_0 (f34 : Int → (List (List Int)) → Option ((List (List Int)))) (self : ((List (List (List Int))) × Int × (List (List (List Int))) × Int × Int) → Option (((List (List (List Int))) × Int × (List (List (List Int))) × Int × Int) ⊕ ((List (List Int))))) (z4 : (List (List (List Int))) × Int × (List (List (List Int))) × Int × Int) : Option (((List (List (List Int))) × Int × (List (List (List Int))) × Int × Int) ⊕ ((List (List Int)))) :=
let v5 : Bool := decide (z4.2.2.2.2 < z4.2.2.2.1)
bif v5 then
if 0 ≤ z4.2.2.2.2 ∧ z4.2.2.2.2 < (z4.2.2.1.length : Int) then
let v6 : (List (List Int)) := z4.2.2.1.getD z4.2.2.2.2.toNat ([] : List (List Int))
let v7 : Int := (v6.length : Int)
let v8 : Int := IntKind.wrap .i64 (z4.2.1 + v7)
let v9 : Bool := decide (v8 < (0 : Int))
bif v9 then
none
else
let v10 : Int := IntKind.wrap .i64 (z4.2.2.2.2 + (1 : Int))
self (z4.1, v8, z4.2.2.1, z4.2.2.2.1, v10)
else none
else
some (.inl (z4.1, z4.2.1, z4.2.2.1, z4.2.2.2.1, z4.2.2.2.2))
def F30_1 (f34 : Int → (List (List Int)) → Option ((List (List Int)))) (self : ((List (List (List Int))) × Int × Int × (List (List Int))) → Option (((List (List (List Int))) × Int × Int × (List (List Int))) ⊕ ((List (List Int))))) (z16 : (List (List (List Int))) × Int × Int × (List (List Int))) : Option (((List (List (List Int))) × Int × Int × (List (List Int))) ⊕ ((List (List Int)))) :=
let v17 : Bool := decide (z16.2.2.1 < z16.2.1)
bif v17 then
if 0 ≤ z16.2.2.1 ∧ z16.2.2.1 < (z16.1.length : Int) then
let v18 : (List (List Int)) := z16.1.getD z16.2.2.1.toNat ([] : List (List Int))
if (z16.2.2.2.length + v18.length) * 24 ≤ 140737488355328 ∧ z16.2.2.2.length + v18.length ≤ 140737488355328 then
let v19 : (List (List Int)) := z16.2.2.2 ++ v18
let v20 : Int := IntKind.wrap .i64 (z16.2.2.1 + (1 : Int))
self (z16.1, z16.2.1, v20, v19)
else none
else none
else
some (.inl (z16.1, z16.2.1, z16.2.2.1, z16.2.2.2))
def r30 (f34 : Int → (List (List Int)) → Option ((List (List Int)))) (lp0 : ((List (List (List Int))) × Int × (List (List (List Int))) × Int × Int) → Option (((List (List (List Int))) × Int × (List (List (List Int))) × Int × Int) ⊕ ((List (List Int))))) (lp1 : ((List (List (List Int))) × Int × Int × (List (List Int))) → Option (((List (List (List Int))) × Int × Int × (List (List Int))) ⊕ ((List (List Int))))) (a0 : (List (List (List Int)))) : Option ((List (List Int))) :=
let v1 : Int := (a0.length : Int)
Option.bind (lp0 (a0, (0 : Int), a0, v1, (0 : Int))) fun s2 => onSum s2 (fun y3 =>
Option.bind (f34 y3.2.1 ([] : List (List Int))) fun y12 =>
let v13 : Int := (y3.1.length : Int)
Option.bind (lp1 (y3.1, v13, (0 : Int), y12)) fun s14 => onSum s14 (fun y15 =>
some y15.2.2.2) (fun o21 => some o21)) (fun o11 => some o11)
def g7 (call : CallFn E) : (List (List Int)) → (List (List Int)) → Option (Bool) := fun x0 x1 => call 7 (x0, x1)
def g9 (call : CallFn E) : (List (List Int)) → Option ((List (List Int))) := fun x0 => call 9 x0
def g10 (call : CallFn E) : (List (List Int)) → (List Int) → Option (Int × Bool) := fun x0 x1 => call 10 (x0, x1)
def g11 (call : CallFn E) : (List (List Int)) → (List (List Int)) → Option ((List Int) × Bool) := fun x0 x1 => call 11 (x0, x1)
def g12 (call : CallFn E) : (List (List Int)) → (List (List Int)) → Option ((List Int) × (List Int) × Int) := fun x0 x1 => call 12 (x0, x1)
def g13 (call : CallFn E) : Unit → Option (Bool) := fun _ => call 13 ()
def g14 (call : CallFn E) : (List Int) → (List Int) → Option (Bool) := fun x0 x1 => call 14 (x0, x1)
def g15 (call : CallFn E) : (List (List Int)) → Option (Bool) := fun x0 => call 15 x0
def g21 (call : CallFn E) : (List Int) → (List Int) → Option (Bool) := fun x0 x1 => call 21 (x0, x1)
def g22 (call : CallFn E) : (List Int) → (List Int) → Option (Bool) := fun x0 x1 => call 22 (x0, x1)
def g23 (call : CallFn E) : (List (List Int)) → Option ((List (List Int))) := fun x0 => call 23 x0
def g24 (call : CallFn E) : (List (List Int)) → Option ((List (List Int))) := fun x0 => call 24 x0
def g25 (call : CallFn E) : (List Int) → (List Int) → Option (Int) := fun x0 x1 => call 25 (x0, x1)
def g26 (call : CallFn E) : (List (List Int)) → Option ((List (List Int))) := fun x0 => call 26 x0
def g28 (call : CallFn E) : (List Int) → Option ((List Int)) := fun x0 => call 28 x0
def g29 (call : CallFn E) : (List (List Int)) → (List Int) → Option (Int × Bool) := fun x0 x1 => call 29 (x0, x1)
def g30 (call : CallFn E) : (List (List (List Int))) → Option ((List (List Int))) := fun x0 => call 30 x0
def g33 (call : CallFn E) : (List Int) → (List Int) → Option (Int) := fun x0 x1 => call 33 (x0, x1)
def g34 (call : CallFn E) : Int → (List (List Int)) → Option ((List (List Int))) := fun x0 x1 => call 34 (x0, x1)
def L7_0 : LH := ⟨[0, 1, 5, 6, 8, 9], ⟨[.dat (.slice (.slice (.int .u8))), .dat (.slice (.slice (.int .u8))), .dat (.slice (.int .i64)), .dat (.slice (.int .i64)), .dat (.int .i64), .dat (.int .i64)], []⟩, 2⟩
noncomputable def b7_0 : Code := codeAt c7 [1, 1, 1, 1, 1, 0, 1, 0, 0, 1, 0, 0, 1, 0, 0]
noncomputable def lq7_0 (call : CallFn E) (n m : Nat) (y : (List (List Int)) × (List (List Int)) × (List Int) × (List Int) × Int × Int) : Option (((List (List Int)) × (List (List Int)) × (List Int) × (List Int) × Int × Int) ⊕ (Bool)) := loopAt (ctxOf E call n s7 Try.f7 hs7) b7_0 [0, 1, 0, 0, 1, 0, 0, 1, 0, 1, 1, 1, 1, 1] L7_0 m y
def L7_1 : LH := ⟨[0, 1, 5, 6, 8], ⟨[.dat (.slice (.slice (.int .u8))), .dat (.slice (.slice (.int .u8))), .dat (.slice (.int .i64)), .dat (.slice (.int .i64)), .dat (.int .i64)], []⟩, 0⟩
noncomputable def b7_1 : Code := codeAt c7 [1, 1, 1, 1, 1, 0, 1, 0, 0]
noncomputable def lq7_1 (call : CallFn E) (n m : Nat) (y : (List (List Int)) × (List (List Int)) × (List Int) × (List Int) × Int) : Option (((List (List Int)) × (List (List Int)) × (List Int) × (List Int) × Int) ⊕ (Bool)) := loopAt (ctxOf E call n s7 Try.f7 hs7) b7_1 [0, 1, 0, 1, 1, 1, 1, 1] L7_1 m y
theorem lp7_0 (call : CallFn E) (n m : Nat) (y : (List (List Int)) × (List (List Int)) × (List Int) × (List Int) × Int × Int) : lq7_0 call n (m + 1) y = F7_0 (g12 call) (g13 call) (g15 call) (g21 call) (g22 call)  (lq7_0 call n m) y := by kernel_rfl
theorem lp7_1 (call : CallFn E) (n m : Nat) (y : (List (List Int)) × (List (List Int)) × (List Int) × (List Int) × Int) : lq7_1 call n (m + 1) y = F7_1 (g12 call) (g13 call) (g15 call) (g21 call) (g22 call) (lq7_0 call n n) (lq7_1 call n m) y := by kernel_rfl
noncomputable def q7 (call : CallFn E) (n : Nat) (a0 : (List (List Int))) (a1 : (List (List Int))) : Option (Bool) := runHow E call n s7 (a0, a1) h7
theorem rr7 (call : CallFn E) (n : Nat) (a0 : (List (List Int))) (a1 : (List (List Int))) : q7 call n a0 a1 = r7 (g12 call) (g13 call) (g15 call) (g21 call) (g22 call) (lq7_0 call n n) (lq7_1 call n n) a0 a1 := by kernel_rfl
theorem gq7 (n : Nat) (a0 : (List (List Int))) (a1 : (List (List Int))) : g7 (evalF E (n + 1)) a0 a1 = q7 (evalF E n) n a0 a1 := by kernel_rfl
def L9_0 : LH := ⟨[4, 16, 17, 18], ⟨[.ref 0, .ref 1, .dat (.int .i64), .dat (.int .i64)], [.row (.slice (.int .u8)), .row (.slice (.int .u8))]⟩, 0⟩
noncomputable def b9_0 : Code := codeAt c9 [1, 1, 1, 1, 1, 0, 1, 0, 0]
noncomputable def lq9_0 (call : CallFn E) (n m : Nat) (y : Int × Int × (List (List Int)) × (List (List Int))) : Option ((Int × Int × (List (List Int)) × (List (List Int))) ⊕ ((List (List Int)))) := loopAt (ctxOf E call n s9 Try.f9 hs9) b9_0 [0, 1, 0, 1, 1, 1, 1, 1] L9_0 m y
theorem lp9_0 (call : CallFn E) (n m : Nat) (y : Int × Int × (List (List Int)) × (List (List Int))) : lq9_0 call n (m + 1) y = F9_0 (g23 call) (g24 call) (g26 call) (g28 call)  (lq9_0 call n m) y := by kernel_rfl
noncomputable def q9 (call : CallFn E) (n : Nat) (a0 : (List (List Int))) : Option ((List (List Int))) := runHow E call n s9 a0 h9
theorem rr9 (call : CallFn E) (n : Nat) (a0 : (List (List Int))) : q9 call n a0 = r9 (g23 call) (g24 call) (g26 call) (g28 call) (lq9_0 call n n) a0 := by kernel_rfl
theorem gq9 (n : Nat) (a0 : (List (List Int))) : g9 (evalF E (n + 1)) a0 = q9 (evalF E n) n a0 := by kernel_rfl
noncomputable def q10 (call : CallFn E) (n : Nat) (a0 : (List (List Int))) (a1 : (List Int)) : Option (Int × Bool) := runHow E call n s10 (a0, a1) h10
theorem rr10 (call : CallFn E) (n : Nat) (a0 : (List (List Int))) (a1 : (List Int)) : q10 call n a0 a1 = r10 (g29 call)  a0 a1 := by kernel_rfl
theorem gq10 (n : Nat) (a0 : (List (List Int))) (a1 : (List Int)) : g10 (evalF E (n + 1)) a0 a1 = q10 (evalF E n) n a0 a1 := by kernel_rfl
def L11_0 : LH := ⟨[0, 6, 14, 15, 16], ⟨[.dat (.slice (.slice (.int .u8))), .ref 0, .dat (.slice (.slice (.int .u8))), .dat (.int .i64), .dat (.int .i64)], [.row (.int .i64)]⟩, 0⟩
noncomputable def b11_0 : Code := codeAt c11 [1, 1, 0, 1, 0, 0]
noncomputable def lq11_0 (call : CallFn E) (n m : Nat) (y : (List (List Int)) × (List (List Int)) × Int × Int × (List Int)) : Option (((List (List Int)) × (List (List Int)) × Int × Int × (List Int)) ⊕ ((List Int) × Bool)) := loopAt (ctxOf E call n s11 Try.f11 hs11) b11_0 [0, 1, 0, 1, 1] L11_0 m y
theorem lp11_0 (call : CallFn E) (n m : Nat) (y : (List (List Int)) × (List (List Int)) × Int × Int × (List Int)) : lq11_0 call n (m + 1) y = F11_0 (g10 call)  (lq11_0 call n m) y := by kernel_rfl
noncomputable def q11 (call : CallFn E) (n : Nat) (a0 : (List (List Int))) (a1 : (List (List Int))) : Option ((List Int) × Bool) := runHow E call n s11 (a0, a1) h11
theorem rr11 (call : CallFn E) (n : Nat) (a0 : (List (List Int))) (a1 : (List (List Int))) : q11 call n a0 a1 = r11 (g10 call) (lq11_0 call n n) a0 a1 := by kernel_rfl
theorem gq11 (n : Nat) (a0 : (List (List Int))) (a1 : (List (List Int))) : g11 (evalF E (n + 1)) a0 a1 = q11 (evalF E n) n a0 a1 := by kernel_rfl
noncomputable def q12 (call : CallFn E) (n : Nat) (a0 : (List (List Int))) (a1 : (List (List Int))) : Option ((List Int) × (List Int) × Int) := runHow E call n s12 (a0, a1) h12
theorem rr12 (call : CallFn E) (n : Nat) (a0 : (List (List Int))) (a1 : (List (List Int))) : q12 call n a0 a1 = r12 (g9 call) (g11 call) (g30 call)  a0 a1 := by kernel_rfl
theorem gq12 (n : Nat) (a0 : (List (List Int))) (a1 : (List (List Int))) : g12 (evalF E (n + 1)) a0 a1 = q12 (evalF E n) n a0 a1 := by kernel_rfl
noncomputable def q13 (call : CallFn E) (n : Nat) (_ : Unit) : Option (Bool) := runHow E call n s13 () h13
theorem rr13 (call : CallFn E) (n : Nat) (u : Unit) : q13 call n u = r13 (g12 call) (g14 call)  u := by kernel_rfl
theorem gq13 (n : Nat) (u : Unit) : g13 (evalF E (n + 1)) u = q13 (evalF E n) n u := by kernel_rfl
def L14_0 : LH := ⟨[0, 1, 5], ⟨[.dat (.slice (.int .i64)), .dat (.slice (.int .i64)), .dat (.int .i64)], []⟩, 0⟩
noncomputable def b14_0 : Code := codeAt c14 [1, 1, 0, 1, 0, 0]
noncomputable def lq14_0 (call : CallFn E) (n m : Nat) (y : (List Int) × (List Int) × Int) : Option (((List Int) × (List Int) × Int) ⊕ (Bool)) := loopAt (ctxOf E call n s14 Try.f14 hs14) b14_0 [0, 1, 0, 1, 1] L14_0 m y
theorem lp14_0 (call : CallFn E) (n m : Nat) (y : (List Int) × (List Int) × Int) : lq14_0 call n (m + 1) y = F14_0   (lq14_0 call n m) y := by kernel_rfl
noncomputable def q14 (call : CallFn E) (n : Nat) (a0 : (List Int)) (a1 : (List Int)) : Option (Bool) := runHow E call n s14 (a0, a1) h14
theorem rr14 (call : CallFn E) (n : Nat) (a0 : (List Int)) (a1 : (List Int)) : q14 call n a0 a1 = r14  (lq14_0 call n n) a0 a1 := by kernel_rfl
theorem gq14 (n : Nat) (a0 : (List Int)) (a1 : (List Int)) : g14 (evalF E (n + 1)) a0 a1 = q14 (evalF E n) n a0 a1 := by kernel_rfl
def L15_0 : LH := ⟨[0, 3], ⟨[.dat (.slice (.slice (.int .u8))), .dat (.int .i64)], []⟩, 0⟩
noncomputable def b15_0 : Code := codeAt c15 [1, 1, 0, 1, 0, 0]
noncomputable def lq15_0 (call : CallFn E) (n m : Nat) (y : (List (List Int)) × Int) : Option (((List (List Int)) × Int) ⊕ (Bool)) := loopAt (ctxOf E call n s15 Try.f15 hs15) b15_0 [0, 1, 0, 1, 1] L15_0 m y
theorem lp15_0 (call : CallFn E) (n m : Nat) (y : (List (List Int)) × Int) : lq15_0 call n (m + 1) y = F15_0   (lq15_0 call n m) y := by kernel_rfl
noncomputable def q15 (call : CallFn E) (n : Nat) (a0 : (List (List Int))) : Option (Bool) := runHow E call n s15 a0 h15
theorem rr15 (call : CallFn E) (n : Nat) (a0 : (List (List Int))) : q15 call n a0 = r15  (lq15_0 call n n) a0 := by kernel_rfl
theorem gq15 (n : Nat) (a0 : (List (List Int))) : g15 (evalF E (n + 1)) a0 = q15 (evalF E n) n a0 := by kernel_rfl
noncomputable def q21 (call : CallFn E) (n : Nat) (a0 : (List Int)) (a1 : (List Int)) : Option (Bool) := runHow E call n s21 (a0, a1) h21
theorem rr21 (call : CallFn E) (n : Nat) (a0 : (List Int)) (a1 : (List Int)) : q21 call n a0 a1 = r21   a0 a1 := by kernel_rfl
theorem gq21 (n : Nat) (a0 : (List Int)) (a1 : (List Int)) : g21 (evalF E (n + 1)) a0 a1 = q21 (evalF E n) n a0 a1 := by kernel_rfl
def L22_0 : LH := ⟨[0, 1, 5], ⟨[.dat (.slice (.int .u8)), .dat (.slice (.int .u8)), .dat (.int .i64)], []⟩, 0⟩
noncomputable def b22_0 : Code := codeAt c22 [1, 0, 1, 0, 0]
noncomputable def lq22_0 (call : CallFn E) (n m : Nat) (y : (List Int) × (List Int) × Int) : Option (((List Int) × (List Int) × Int) ⊕ (Bool)) := loopAt (ctxOf E call n s22 Try.f22 hs22) b22_0 [0, 1, 0, 1] L22_0 m y
theorem lp22_0 (call : CallFn E) (n m : Nat) (y : (List Int) × (List Int) × Int) : lq22_0 call n (m + 1) y = F22_0   (lq22_0 call n m) y := by kernel_rfl
noncomputable def q22 (call : CallFn E) (n : Nat) (a0 : (List Int)) (a1 : (List Int)) : Option (Bool) := runHow E call n s22 (a0, a1) h22
theorem rr22 (call : CallFn E) (n : Nat) (a0 : (List Int)) (a1 : (List Int)) : q22 call n a0 a1 = r22  (lq22_0 call n n) a0 a1 := by kernel_rfl
theorem gq22 (n : Nat) (a0 : (List Int)) (a1 : (List Int)) : g22 (evalF E (n + 1)) a0 a1 = q22 (evalF E n) n a0 a1 := by kernel_rfl
noncomputable def q25 (call : CallFn E) (n : Nat) (a0 : (List Int)) (a1 : (List Int)) : Option (Int) := runHow E call n s25 (a0, a1) h25
theorem rr25 (call : CallFn E) (n : Nat) (a0 : (List Int)) (a1 : (List Int)) : q25 call n a0 a1 = r25 (g33 call)  a0 a1 := by kernel_rfl
theorem gq25 (n : Nat) (a0 : (List Int)) (a1 : (List Int)) : g25 (evalF E (n + 1)) a0 a1 = q25 (evalF E n) n a0 a1 := by kernel_rfl
def L29_0 : LH := ⟨[0, 1, 2, 8, 9, 10], ⟨[.dat (.slice (.slice (.int .u8))), .dat (.slice (.int .u8)), .fnc 25, .dat (.int .i64), .dat (.int .i64), .dat (.int .i64)], []⟩, 0⟩
noncomputable def b29_0 : Code := codeAt c29 [1, 1, 1, 0, 0, 0]
noncomputable def lq29_0 (call : CallFn E) (n m : Nat) (y : (List (List Int)) × (List Int) × Int × Int × Int) : Option (((List (List Int)) × (List Int) × Int × Int × Int) ⊕ (Int × Bool)) := loopAt (ctxOf E call n s29 Try.f29 hs29) b29_0 [0, 0, 1, 1, 1] L29_0 m y
theorem lp29_0 (call : CallFn E) (n m : Nat) (y : (List (List Int)) × (List Int) × Int × Int × Int) : lq29_0 call n (m + 1) y = F29_0 (g25 call)  (lq29_0 call n m) y := by kernel_rfl
noncomputable def q29 (call : CallFn E) (n : Nat) (a0 : (List (List Int))) (a1 : (List Int)) : Option (Int × Bool) := runHow E call n s29 (a0, a1) h29
theorem rr29 (call : CallFn E) (n : Nat) (a0 : (List (List Int))) (a1 : (List Int)) : q29 call n a0 a1 = r29 (g25 call) (lq29_0 call n n) a0 a1 := by kernel_rfl
theorem gq29 (n : Nat) (a0 : (List (List Int))) (a1 : (List Int)) : g29 (evalF E (n + 1)) a0 a1 = q29 (evalF E n) n a0 a1 := by kernel_rfl
def L30_0 : LH := ⟨[0, 3, 9, 10, 11], ⟨[.dat (.slice (.slice (.slice (.int .u8)))), .dat (.int .i64), .dat (.slice (.slice (.slice (.int .u8)))), .dat (.int .i64), .dat (.int .i64)], []⟩, 0⟩
noncomputable def b30_0 : Code := codeAt c30 [1, 1, 0, 1, 0, 0]
noncomputable def lq30_0 (call : CallFn E) (n m : Nat) (y : (List (List (List Int))) × Int × (List (List (List Int))) × Int × Int) : Option (((List (List (List Int))) × Int × (List (List (List Int))) × Int × Int) ⊕ ((List (List Int)))) := loopAt (ctxOf E call n s30 Try.f30 hs30) b30_0 [0, 1, 0, 1, 1] L30_0 m y
def L30_1 : LH := ⟨[6, 25, 26, 27], ⟨[.ref 0, .dat (.slice (.slice (.slice (.int .u8)))), .dat (.int .i64), .dat (.int .i64)], [.row (.slice (.int .u8))]⟩, 2⟩
noncomputable def b30_1 : Code := codeAt c30 [1, 1, 1, 1, 0, 1, 0, 0]
noncomputable def lq30_1 (call : CallFn E) (n m : Nat) (y : (List (List (List Int))) × Int × Int × (List (List Int))) : Option (((List (List (List Int))) × Int × Int × (List (List Int))) ⊕ ((List (List Int)))) := loopAt (ctxOf E call n s30 Try.f30 hs30) b30_1 [0, 1, 0, 1, 1, 1, 1] L30_1 m y
theorem lp30_1 (call : CallFn E) (n m : Nat) (y : (List (List (List Int))) × Int × Int × (List (List Int))) : lq30_1 call n (m + 1) y = F30_1 (g34 call)  (lq30_1 call n m) y := by kernel_rfl
theorem lp30_0 (call : CallFn E) (n m : Nat) (y : (List (List (List Int))) × Int × (List (List (List Int))) × Int × Int) : lq30_0 call n (m + 1) y = F30_0 (g34 call)  (lq30_0 call n m) y := by kernel_rfl
noncomputable def q30 (call : CallFn E) (n : Nat) (a0 : (List (List (List Int)))) : Option ((List (List Int))) := runHow E call n s30 a0 h30
theorem rr30 (call : CallFn E) (n : Nat) (a0 : (List (List (List Int)))) : q30 call n a0 = r30 (g34 call) (lq30_0 call n n) (lq30_1 call n n) a0 := by kernel_rfl
theorem gq30 (n : Nat) (a0 : (List (List (List Int)))) : g30 (evalF E (n + 1)) a0 = q30 (evalF E n) n a0 := by kernel_rfl
def R23 : Nat → (List (List Int)) → Option ((List (List Int)))
  | 0, _ => none
  | _ + 1, a0 => NameX.cloneR a0
theorem e23 (n : Nat) : g23 (evalF E n) = R23 n := by cases n <;> rfl
def R24 : Nat → (List (List Int)) → Option ((List (List Int)))
  | 0, _ => none
  | _ + 1, a0 => NameX.sortR a0
theorem e24 (n : Nat) : g24 (evalF E n) = R24 n := by cases n <;> rfl
def R26 : Nat → (List (List Int)) → Option ((List (List Int)))
  | 0, _ => none
  | _ + 1, a0 => NameX.compactR a0
theorem e26 (n : Nat) : g26 (evalF E n) = R26 n := by cases n <;> rfl
def R28 : Nat → (List Int) → Option ((List Int))
  | 0, _ => none
  | _ + 1, a0 => NameX.cloneB a0
theorem e28 (n : Nat) : g28 (evalF E n) = R28 n := by cases n <;> rfl
def R9 : Nat → (List (List Int)) → Option ((List (List Int)))
  | 0, _ => none
  | n + 1, a0 => r9 (R23 n) (R24 n) (R26 n) (R28 n) (iter (F9_0 (R23 n) (R24 n) (R26 n) (R28 n) ) n) a0
def J9_0 (n m : Nat) : (Int × Int × (List (List Int)) × (List (List Int))) → Option ((Int × Int × (List (List Int)) × (List (List Int))) ⊕ ((List (List Int)))) := iter (F9_0 (R23 n) (R24 n) (R26 n) (R28 n) ) m
theorem j9_0 (n m : Nat) (x : Int × Int × (List (List Int)) × (List (List Int))) : J9_0 n (m + 1) x = F9_0 (R23 n) (R24 n) (R26 n) (R28 n)  (J9_0 n m) x := rfl
theorem u9 (n : Nat) (a0 : (List (List Int))) : R9 (n + 1) a0 = r9 (R23 n) (R24 n) (R26 n) (R28 n) (J9_0 n n) a0 := rfl
theorem e9 : ∀ (n : Nat), g9 (evalF E n) = R9 n
  | 0 => by funext a0; rfl
  | n + 1 => by
    have l0 : lq9_0 (evalF E n) n n = (iter (F9_0 (R23 n) (R24 n) (R26 n) (R28 n) ) n) := iter_of (g := lq9_0 (evalF E n) n) rfl (fun m y => by rw [lp9_0]; simp only [e23 n, e24 n, e26 n, e28 n]) n
    funext a0
    rw [gq9, rr9]
    simp only [e23 n, e24 n, e26 n, e28 n, l0]
    rfl
def R33 : Nat → (List Int) → (List Int) → Option (Int)
  | 0, _, _ => none
  | _ + 1, a0, a1 => NameX.cmpB (a0, a1)
theorem e33 (n : Nat) : g33 (evalF E n) = R33 n := by cases n <;> rfl
def R25 : Nat → (List Int) → (List Int) → Option (Int)
  | 0, _, _ => none
  | n + 1, a0, a1 => r25 (R33 n)  a0 a1
theorem u25 (n : Nat) (a0 : (List Int)) (a1 : (List Int)) : R25 (n + 1) a0 a1 = r25 (R33 n)  a0 a1 := rfl
theorem e25 : ∀ (n : Nat), g25 (evalF E n) = R25 n
  | 0 => by funext a0 a1; rfl
  | n + 1 => by
    funext a0 a1
    rw [gq25, rr25]
    simp only [e33 n]
    rfl
def R29 : Nat → (List (List Int)) → (List Int) → Option (Int × Bool)
  | 0, _, _ => none
  | n + 1, a0, a1 => r29 (R25 n) (iter (F29_0 (R25 n) ) n) a0 a1
def J29_0 (n m : Nat) : ((List (List Int)) × (List Int) × Int × Int × Int) → Option (((List (List Int)) × (List Int) × Int × Int × Int) ⊕ (Int × Bool)) := iter (F29_0 (R25 n) ) m
theorem j29_0 (n m : Nat) (x : (List (List Int)) × (List Int) × Int × Int × Int) : J29_0 n (m + 1) x = F29_0 (R25 n)  (J29_0 n m) x := rfl
theorem u29 (n : Nat) (a0 : (List (List Int))) (a1 : (List Int)) : R29 (n + 1) a0 a1 = r29 (R25 n) (J29_0 n n) a0 a1 := rfl
theorem e29 : ∀ (n : Nat), g29 (evalF E n) = R29 n
  | 0 => by funext a0 a1; rfl
  | n + 1 => by
    have l0 : lq29_0 (evalF E n) n n = (iter (F29_0 (R25 n) ) n) := iter_of (g := lq29_0 (evalF E n) n) rfl (fun m y => by rw [lp29_0]; simp only [e25 n]) n
    funext a0 a1
    rw [gq29, rr29]
    simp only [e25 n, l0]
    rfl
def R10 : Nat → (List (List Int)) → (List Int) → Option (Int × Bool)
  | 0, _, _ => none
  | n + 1, a0, a1 => r10 (R29 n)  a0 a1
theorem u10 (n : Nat) (a0 : (List (List Int))) (a1 : (List Int)) : R10 (n + 1) a0 a1 = r10 (R29 n)  a0 a1 := rfl
theorem e10 : ∀ (n : Nat), g10 (evalF E n) = R10 n
  | 0 => by funext a0 a1; rfl
  | n + 1 => by
    funext a0 a1
    rw [gq10, rr10]
    simp only [e29 n]
    rfl
def R11 : Nat → (List (List Int)) → (List (List Int)) → Option ((List Int) × Bool)
  | 0, _, _ => none
  | n + 1, a0, a1 => r11 (R10 n) (iter (F11_0 (R10 n) ) n) a0 a1
def J11_0 (n m : Nat) : ((List (List Int)) × (List (List Int)) × Int × Int × (List Int)) → Option (((List (List Int)) × (List (List Int)) × Int × Int × (List Int)) ⊕ ((List Int) × Bool)) := iter (F11_0 (R10 n) ) m
theorem j11_0 (n m : Nat) (x : (List (List Int)) × (List (List Int)) × Int × Int × (List Int)) : J11_0 n (m + 1) x = F11_0 (R10 n)  (J11_0 n m) x := rfl
theorem u11 (n : Nat) (a0 : (List (List Int))) (a1 : (List (List Int))) : R11 (n + 1) a0 a1 = r11 (R10 n) (J11_0 n n) a0 a1 := rfl
theorem e11 : ∀ (n : Nat), g11 (evalF E n) = R11 n
  | 0 => by funext a0 a1; rfl
  | n + 1 => by
    have l0 : lq11_0 (evalF E n) n n = (iter (F11_0 (R10 n) ) n) := iter_of (g := lq11_0 (evalF E n) n) rfl (fun m y => by rw [lp11_0]; simp only [e10 n]) n
    funext a0 a1
    rw [gq11, rr11]
    simp only [e10 n, l0]
    rfl
def R34 : Nat → Int → (List (List Int)) → Option ((List (List Int)))
  | 0, _, _ => none
  | _ + 1, a0, a1 => NameX.growR (a0, a1)
theorem e34 (n : Nat) : g34 (evalF E n) = R34 n := by cases n <;> rfl
def R30 : Nat → (List (List (List Int))) → Option ((List (List Int)))
  | 0, _ => none
  | n + 1, a0 => r30 (R34 n) (iter (F30_0 (R34 n) ) n) (iter (F30_1 (R34 n) ) n) a0
def J30_1 (n m : Nat) : ((List (List (List Int))) × Int × Int × (List (List Int))) → Option (((List (List (List Int))) × Int × Int × (List (List Int))) ⊕ ((List (List Int)))) := iter (F30_1 (R34 n) ) m
theorem j30_1 (n m : Nat) (x : (List (List (List Int))) × Int × Int × (List (List Int))) : J30_1 n (m + 1) x = F30_1 (R34 n)  (J30_1 n m) x := rfl
def J30_0 (n m : Nat) : ((List (List (List Int))) × Int × (List (List (List Int))) × Int × Int) → Option (((List (List (List Int))) × Int × (List (List (List Int))) × Int × Int) ⊕ ((List (List Int)))) := iter (F30_0 (R34 n) ) m
theorem j30_0 (n m : Nat) (x : (List (List (List Int))) × Int × (List (List (List Int))) × Int × Int) : J30_0 n (m + 1) x = F30_0 (R34 n)  (J30_0 n m) x := rfl
theorem u30 (n : Nat) (a0 : (List (List (List Int)))) : R30 (n + 1) a0 = r30 (R34 n) (J30_0 n n) (J30_1 n n) a0 := rfl
theorem e30 : ∀ (n : Nat), g30 (evalF E n) = R30 n
  | 0 => by funext a0; rfl
  | n + 1 => by
    have l1 : lq30_1 (evalF E n) n n = (iter (F30_1 (R34 n) ) n) := iter_of (g := lq30_1 (evalF E n) n) rfl (fun m y => by rw [lp30_1]; simp only [e34 n]) n
    have l0 : lq30_0 (evalF E n) n n = (iter (F30_0 (R34 n) ) n) := iter_of (g := lq30_0 (evalF E n) n) rfl (fun m y => by rw [lp30_0]; simp only [e34 n]) n
    funext a0
    rw [gq30, rr30]
    simp only [e34 n, l0, l1]
    rfl
def R12 : Nat → (List (List Int)) → (List (List Int)) → Option ((List Int) × (List Int) × Int)
  | 0, _, _ => none
  | n + 1, a0, a1 => r12 (R9 n) (R11 n) (R30 n)  a0 a1
theorem u12 (n : Nat) (a0 : (List (List Int))) (a1 : (List (List Int))) : R12 (n + 1) a0 a1 = r12 (R9 n) (R11 n) (R30 n)  a0 a1 := rfl
theorem e12 : ∀ (n : Nat), g12 (evalF E n) = R12 n
  | 0 => by funext a0 a1; rfl
  | n + 1 => by
    funext a0 a1
    rw [gq12, rr12]
    simp only [e9 n, e11 n, e30 n]
    rfl
def R14 : Nat → (List Int) → (List Int) → Option (Bool)
  | 0, _, _ => none
  | n + 1, a0, a1 => r14  (iter (F14_0  ) n) a0 a1
def J14_0 (n m : Nat) : ((List Int) × (List Int) × Int) → Option (((List Int) × (List Int) × Int) ⊕ (Bool)) := iter (F14_0  ) m
theorem j14_0 (n m : Nat) (x : (List Int) × (List Int) × Int) : J14_0 n (m + 1) x = F14_0   (J14_0 n m) x := rfl
theorem u14 (n : Nat) (a0 : (List Int)) (a1 : (List Int)) : R14 (n + 1) a0 a1 = r14  (J14_0 n n) a0 a1 := rfl
theorem e14 : ∀ (n : Nat), g14 (evalF E n) = R14 n
  | 0 => by funext a0 a1; rfl
  | n + 1 => by
    have l0 : lq14_0 (evalF E n) n n = (iter (F14_0  ) n) := iter_of (g := lq14_0 (evalF E n) n) rfl (fun m y => by rw [lp14_0]) n
    funext a0 a1
    rw [gq14, rr14]
    simp only [l0]
    rfl
def R13 : Nat → Unit → Option (Bool)
  | 0, _ => none
  | n + 1, u => r13 (R12 n) (R14 n)  u
theorem u13 (n : Nat) (_ : Unit) : R13 (n + 1) () = r13 (R12 n) (R14 n)  () := rfl
theorem e13 : ∀ (n : Nat), g13 (evalF E n) = R13 n
  | 0 => by funext u; rfl
  | n + 1 => by
    funext u
    rw [gq13, rr13]
    simp only [e12 n, e14 n]
    rfl
def R15 : Nat → (List (List Int)) → Option (Bool)
  | 0, _ => none
  | n + 1, a0 => r15  (iter (F15_0  ) n) a0
def J15_0 (n m : Nat) : ((List (List Int)) × Int) → Option (((List (List Int)) × Int) ⊕ (Bool)) := iter (F15_0  ) m
theorem j15_0 (n m : Nat) (x : (List (List Int)) × Int) : J15_0 n (m + 1) x = F15_0   (J15_0 n m) x := rfl
theorem u15 (n : Nat) (a0 : (List (List Int))) : R15 (n + 1) a0 = r15  (J15_0 n n) a0 := rfl
theorem e15 : ∀ (n : Nat), g15 (evalF E n) = R15 n
  | 0 => by funext a0; rfl
  | n + 1 => by
    have l0 : lq15_0 (evalF E n) n n = (iter (F15_0  ) n) := iter_of (g := lq15_0 (evalF E n) n) rfl (fun m y => by rw [lp15_0]) n
    funext a0
    rw [gq15, rr15]
    simp only [l0]
    rfl
def R21 : Nat → (List Int) → (List Int) → Option (Bool)
  | 0, _, _ => none
  | n + 1, a0, a1 => r21   a0 a1
theorem u21 (n : Nat) (a0 : (List Int)) (a1 : (List Int)) : R21 (n + 1) a0 a1 = r21   a0 a1 := rfl
theorem e21 : ∀ (n : Nat), g21 (evalF E n) = R21 n
  | 0 => by funext a0 a1; rfl
  | n + 1 => by
    funext a0 a1
    rw [gq21, rr21]
    rfl
def R22 : Nat → (List Int) → (List Int) → Option (Bool)
  | 0, _, _ => none
  | n + 1, a0, a1 => r22  (iter (F22_0  ) n) a0 a1
def J22_0 (n m : Nat) : ((List Int) × (List Int) × Int) → Option (((List Int) × (List Int) × Int) ⊕ (Bool)) := iter (F22_0  ) m
theorem j22_0 (n m : Nat) (x : (List Int) × (List Int) × Int) : J22_0 n (m + 1) x = F22_0   (J22_0 n m) x := rfl
theorem u22 (n : Nat) (a0 : (List Int)) (a1 : (List Int)) : R22 (n + 1) a0 a1 = r22  (J22_0 n n) a0 a1 := rfl
theorem e22 : ∀ (n : Nat), g22 (evalF E n) = R22 n
  | 0 => by funext a0 a1; rfl
  | n + 1 => by
    have l0 : lq22_0 (evalF E n) n n = (iter (F22_0  ) n) := iter_of (g := lq22_0 (evalF E n) n) rfl (fun m y => by rw [lp22_0]) n
    funext a0 a1
    rw [gq22, rr22]
    simp only [l0]
    rfl
def R7 : Nat → (List (List Int)) → (List (List Int)) → Option (Bool)
  | 0, _, _ => none
  | n + 1, a0, a1 => r7 (R12 n) (R13 n) (R15 n) (R21 n) (R22 n) (iter (F7_0 (R12 n) (R13 n) (R15 n) (R21 n) (R22 n) ) n) (iter (F7_1 (R12 n) (R13 n) (R15 n) (R21 n) (R22 n) (iter (F7_0 (R12 n) (R13 n) (R15 n) (R21 n) (R22 n) ) n)) n) a0 a1
def J7_0 (n m : Nat) : ((List (List Int)) × (List (List Int)) × (List Int) × (List Int) × Int × Int) → Option (((List (List Int)) × (List (List Int)) × (List Int) × (List Int) × Int × Int) ⊕ (Bool)) := iter (F7_0 (R12 n) (R13 n) (R15 n) (R21 n) (R22 n) ) m
theorem j7_0 (n m : Nat) (x : (List (List Int)) × (List (List Int)) × (List Int) × (List Int) × Int × Int) : J7_0 n (m + 1) x = F7_0 (R12 n) (R13 n) (R15 n) (R21 n) (R22 n)  (J7_0 n m) x := rfl
def J7_1 (n m : Nat) : ((List (List Int)) × (List (List Int)) × (List Int) × (List Int) × Int) → Option (((List (List Int)) × (List (List Int)) × (List Int) × (List Int) × Int) ⊕ (Bool)) := iter (F7_1 (R12 n) (R13 n) (R15 n) (R21 n) (R22 n) (J7_0 n n)) m
theorem j7_1 (n m : Nat) (x : (List (List Int)) × (List (List Int)) × (List Int) × (List Int) × Int) : J7_1 n (m + 1) x = F7_1 (R12 n) (R13 n) (R15 n) (R21 n) (R22 n) (J7_0 n n) (J7_1 n m) x := rfl
theorem u7 (n : Nat) (a0 : (List (List Int))) (a1 : (List (List Int))) : R7 (n + 1) a0 a1 = r7 (R12 n) (R13 n) (R15 n) (R21 n) (R22 n) (J7_0 n n) (J7_1 n n) a0 a1 := rfl
theorem e7 : ∀ (n : Nat), g7 (evalF E n) = R7 n
  | 0 => by funext a0 a1; rfl
  | n + 1 => by
    have l0 : lq7_0 (evalF E n) n n = (iter (F7_0 (R12 n) (R13 n) (R15 n) (R21 n) (R22 n) ) n) := iter_of (g := lq7_0 (evalF E n) n) rfl (fun m y => by rw [lp7_0]; simp only [e12 n, e13 n, e15 n, e21 n, e22 n]) n
    have l1 : lq7_1 (evalF E n) n n = (iter (F7_1 (R12 n) (R13 n) (R15 n) (R21 n) (R22 n) (iter (F7_0 (R12 n) (R13 n) (R15 n) (R21 n) (R22 n) ) n)) n) := iter_of (g := lq7_1 (evalF E n) n) rfl (fun m y => by rw [lp7_1]; simp only [e12 n, e13 n, e15 n, e21 n, e22 n, l0]) n
    funext a0 a1
    rw [gq7, rr7]
    simp only [e12 n, e13 n, e15 n, e21 n, e22 n, l0, l1]
    rfl
theorem law_R (n : Nat) (a0 : (List (List Int))) (a1 : (List (List Int))) : runHow E (evalF E n) n s7 (a0, a1) h7 = R7 (n + 1) a0 a1 := (gq7 n a0 a1).symm.trans (congrFun (congrFun (e7 (n + 1)) a0) a1)
theorem okAll : EntriesOK Try.prog NoX 0 E.fns := ⟨trivial,
  trivial,
  trivial,
  trivial,
  trivial,
  trivial,
  trivial,
  ok7 NoX,
  trivial,
  ok9 NoX,
  ok10 NoX,
  ok11 NoX,
  ok12 NoX,
  ok13 NoX,
  ok14 NoX,
  ok15 NoX,
  trivial,
  trivial,
  trivial,
  trivial,
  trivial,
  ok21 NoX,
  ok22 NoX,
  fun _ _ _ h => NameX.CloneR_spec h,
  fun _ _ _ h => NameX.SortR_spec h,
  ok25 NoX,
  fun _ _ _ h => NameX.CompactR_spec h,
  trivial,
  fun _ _ _ h => NameX.Clone_spec h,
  ok29 NoX,
  ok30 NoX,
  trivial,
  trivial,
  fun _ _ _ h => NameX.Compare_spec h,
  fun _ _ _ h => NameX.GrowR_spec h, trivial⟩
theorem mixed : Try.prog.follows .mixedOrders = true := by kernel_rfl
theorem calls (n : Nat) : CallOK Try.prog NoX E (evalF E n) := evalF_sound NoX_ok tys mixed (entries_fn okAll) n
end Go.Proofs.Ytanjfijhekhbfaa.ENamesOrder
