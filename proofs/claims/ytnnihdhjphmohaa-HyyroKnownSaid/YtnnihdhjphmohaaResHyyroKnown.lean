import Derived.Test.YtnnihdhjphmohaaProg
import Derived.Test.YtnnihdhjphmohaaAeB
import Derived.Test.YtnnihdhjphmohaaAEB
import Derived.Test.YtnnihdhjphmohaaMaskX
namespace Go.Proofs.Ytnnihdhjphmohaa.EHyyroKnown
open Go Go.Proofs.Ytnnihdhjphmohaa.AE
set_option maxRecDepth 100000
set_option linter.unusedVariables false
-- tatting/tattinglaw20.HyyroKnown
noncomputable def c3 : Code := match Try.f3.body with | some c => c | none => .skip
def s3 : Sig := ⟨⟨[], []⟩, ⟨[.dat .bool], []⟩⟩
def hs3 : List (List Nat × LH) := []
noncomputable def h3 : How s3 := .code Try.f3 c3 hs3
-- tatting/hyyro.Row
noncomputable def c9 : Code := match Try.f9.body with | some c => c | none => .skip
def s9 : Sig := ⟨⟨[.dat (.slice (.int .u64)), .dat (.slice (.int .u64)), .dat (.int .i64)], []⟩, ⟨[.dat (.slice (.int .u64))], []⟩⟩
def hs9 : List (List Nat × LH) := []
noncomputable def h9 : How s9 := .code Try.f9 c9 hs9
-- tatting/hyyro.Rows
noncomputable def c10 : Code := match Try.f10.body with | some c => c | none => .skip
def s10 : Sig := ⟨⟨[.dat (.slice (.int .i64)), .dat (.slice (.int .i64))], []⟩, ⟨[.dat (.slice (.slice (.int .u64)))], []⟩⟩
def hs10 : List (List Nat × LH) := [([0, 1, 0, 1, 1, 1], ⟨[1, 5, 6, 15, 16, 17], ⟨[.dat (.slice (.int .i64)), .dat (.ext 0), .ref 0, .dat (.slice (.int .i64)), .dat (.int .i64), .dat (.int .i64)], [.row (.slice (.int .u64))]⟩, 0⟩)]
noncomputable def h10 : How s10 := .code Try.f10 c10 hs10
-- tatting/tattinglaw20.awake
noncomputable def c11 : Code := match Try.f11.body with | some c => c | none => .skip
def s11 : Sig := ⟨⟨[], []⟩, ⟨[.dat .bool], []⟩⟩
def hs11 : List (List Nat × LH) := []
noncomputable def h11 : How s11 := .code Try.f11 c11 hs11
-- tatting/hyyro.Len
noncomputable def c12 : Code := match Try.f12.body with | some c => c | none => .skip
def s12 : Sig := ⟨⟨[.dat (.slice (.int .i64)), .dat (.slice (.int .i64))], []⟩, ⟨[.dat (.int .i64)], []⟩⟩
def hs12 : List (List Nat × LH) := [([0, 1, 0, 1, 1, 1], ⟨[1, 5, 6, 14, 15, 16], ⟨[.dat (.slice (.int .i64)), .dat (.ext 0), .dat (.slice (.int .u64)), .dat (.slice (.int .i64)), .dat (.int .i64), .dat (.int .i64)], []⟩, 0⟩)]
noncomputable def h12 : How s12 := .code Try.f12 c12 hs12
-- tatting/hyyro.Steps
noncomputable def c13 : Code := match Try.f13.body with | some c => c | none => .skip
def s13 : Sig := ⟨⟨[.dat (.int .i64), .dat (.int .i64)], []⟩, ⟨[.dat (.int .i64)], []⟩⟩
def hs13 : List (List Nat × LH) := []
noncomputable def h13 : How s13 := .code Try.f13 c13 hs13
-- tatting/vec.Fit
noncomputable def c23 : Code := match Try.f23.body with | some c => c | none => .skip
def s23 : Sig := ⟨⟨[.dat (.slice (.int .u64)), .dat (.int .i64)], []⟩, ⟨[.dat (.slice (.int .u64))], []⟩⟩
def hs23 : List (List Nat × LH) := [([0, 1, 0, 1, 1], ⟨[0, 1, 5, 11, 12], ⟨[.dat (.slice (.int .u64)), .dat (.int .i64), .ref 0, .dat (.int .i64), .dat (.int .i64)], [.row (.int .u64)]⟩, 0⟩)]
noncomputable def h23 : How s23 := .code Try.f23 c23 hs23
-- tatting/vec.And
noncomputable def c24 : Code := match Try.f24.body with | some c => c | none => .skip
def s24 : Sig := ⟨⟨[.dat (.slice (.int .u64)), .dat (.slice (.int .u64))], []⟩, ⟨[.dat (.slice (.int .u64))], []⟩⟩
def hs24 : List (List Nat × LH) := [([0, 1, 0, 1, 1], ⟨[0, 1, 5, 14, 15], ⟨[.dat (.slice (.int .u64)), .dat (.slice (.int .u64)), .ref 0, .dat (.int .i64), .dat (.int .i64)], [.row (.int .u64)]⟩, 0⟩)]
noncomputable def h24 : How s24 := .code Try.f24 c24 hs24
-- tatting/vec.Or
noncomputable def c25 : Code := match Try.f25.body with | some c => c | none => .skip
def s25 : Sig := ⟨⟨[.dat (.slice (.int .u64)), .dat (.slice (.int .u64))], []⟩, ⟨[.dat (.slice (.int .u64))], []⟩⟩
def hs25 : List (List Nat × LH) := [([0, 1, 0, 1, 1], ⟨[0, 1, 5, 14, 15], ⟨[.dat (.slice (.int .u64)), .dat (.slice (.int .u64)), .ref 0, .dat (.int .i64), .dat (.int .i64)], [.row (.int .u64)]⟩, 0⟩)]
noncomputable def h25 : How s25 := .code Try.f25 c25 hs25
-- tatting/vec.Add
noncomputable def c26 : Code := match Try.f26.body with | some c => c | none => .skip
def s26 : Sig := ⟨⟨[.dat (.slice (.int .u64)), .dat (.slice (.int .u64))], []⟩, ⟨[.dat (.slice (.int .u64))], []⟩⟩
def hs26 : List (List Nat × LH) := [([0, 1, 0, 1, 1, 1], ⟨[0, 1, 5, 6, 15, 16], ⟨[.dat (.slice (.int .u64)), .dat (.slice (.int .u64)), .ref 0, .dat (.int .u64), .dat (.int .i64), .dat (.int .i64)], [.row (.int .u64)]⟩, 0⟩)]
noncomputable def h26 : How s26 := .code Try.f26 c26 hs26
-- tatting/vec.Sub
noncomputable def c27 : Code := match Try.f27.body with | some c => c | none => .skip
def s27 : Sig := ⟨⟨[.dat (.slice (.int .u64)), .dat (.slice (.int .u64))], []⟩, ⟨[.dat (.slice (.int .u64))], []⟩⟩
def hs27 : List (List Nat × LH) := [([0, 1, 0, 1, 1, 1], ⟨[0, 1, 5, 6, 15, 16], ⟨[.dat (.slice (.int .u64)), .dat (.slice (.int .u64)), .ref 0, .dat (.int .u64), .dat (.int .i64), .dat (.int .i64)], [.row (.int .u64)]⟩, 0⟩)]
noncomputable def h27 : How s27 := .code Try.f27 c27 hs27
-- tatting/vec.Ones
noncomputable def c29 : Code := match Try.f29.body with | some c => c | none => .skip
def s29 : Sig := ⟨⟨[.dat (.int .i64)], []⟩, ⟨[.dat (.slice (.int .u64))], []⟩⟩
def hs29 : List (List Nat × LH) := []
noncomputable def h29 : How s29 := .code Try.f29 c29 hs29
-- tatting/vec.Count
noncomputable def c31 : Code := match Try.f31.body with | some c => c | none => .skip
def s31 : Sig := ⟨⟨[.dat (.slice (.int .u64)), .dat (.int .i64)], []⟩, ⟨[.dat (.int .i64)], []⟩⟩
def hs31 : List (List Nat × LH) := [([0, 1, 0, 1, 1], ⟨[5, 10, 11, 12], ⟨[.dat (.int .i64), .dat (.slice (.int .u64)), .dat (.int .i64), .dat (.int .i64)], []⟩, 0⟩)]
noncomputable def h31 : How s31 := .code Try.f31 c31 hs31
-- tatting/hyyro.is
noncomputable def c32 : Code := match Try.f32.body with | some c => c | none => .skip
def s32 : Sig := ⟨⟨[.dat (.int .i64)], []⟩, ⟨[.dat .bool], []⟩⟩
def hs32 : List (List Nat × LH) := []
noncomputable def h32 : How s32 := .code Try.f32 c32 hs32
-- tatting/vec.Words
noncomputable def c33 : Code := match Try.f33.body with | some c => c | none => .skip
def s33 : Sig := ⟨⟨[.dat (.int .i64)], []⟩, ⟨[.dat (.int .i64)], []⟩⟩
def hs33 : List (List Nat × LH) := []
noncomputable def h33 : How s33 := .code Try.f33 c33 hs33
-- tatting/vec.at
noncomputable def c45 : Code := match Try.f45.body with | some c => c | none => .skip
def s45 : Sig := ⟨⟨[.dat (.slice (.int .u64)), .dat (.int .i64)], []⟩, ⟨[.dat (.int .u64)], []⟩⟩
def hs45 : List (List Nat × LH) := []
noncomputable def h45 : How s45 := .code Try.f45 c45 hs45
-- tatting/vec.mask
noncomputable def c46 : Code := match Try.f46.body with | some c => c | none => .skip
def s46 : Sig := ⟨⟨[.dat (.int .i64), .dat (.int .i64)], []⟩, ⟨[.dat (.int .u64)], []⟩⟩
def hs46 : List (List Nat × LH) := []
noncomputable def h46 : How s46 := .code Try.f46 c46 hs46
-- tatting/vec.Not
noncomputable def c52 : Code := match Try.f52.body with | some c => c | none => .skip
def s52 : Sig := ⟨⟨[.dat (.slice (.int .u64)), .dat (.int .i64)], []⟩, ⟨[.dat (.slice (.int .u64))], []⟩⟩
def hs52 : List (List Nat × LH) := [([0, 1, 0, 1, 1], ⟨[0, 1, 5, 11, 12], ⟨[.dat (.slice (.int .u64)), .dat (.int .i64), .ref 0, .dat (.int .i64), .dat (.int .i64)], [.row (.int .u64)]⟩, 0⟩)]
noncomputable def h52 : How s52 := .code Try.f52 c52 hs52
-- math/bits.OnesCount64
noncomputable def c53 : Code := match Try.f53.body with | some c => c | none => .skip
def s53 : Sig := ⟨⟨[.dat (.int .u64)], []⟩, ⟨[.dat (.int .i64)], []⟩⟩
def hs53 : List (List Nat × LH) := []
noncomputable def h53 : How s53 := .code Try.f53 c53 hs53
-- tatting/vec.width
noncomputable def c54 : Code := match Try.f54.body with | some c => c | none => .skip
def s54 : Sig := ⟨⟨[.dat (.int .i64)], []⟩, ⟨[.dat (.int .i64)], []⟩⟩
def hs54 : List (List Nat × LH) := []
noncomputable def h54 : How s54 := .code Try.f54 c54 hs54
-- tatting/mask.New
def s28 : Sig := ⟨⟨[.dat (.slice (.int .i64))], []⟩, ⟨[.dat (.ext 0)], []⟩⟩
def h28 : How s28 := .orc (fun _ x => maskNew x)
-- (*tatting/mask.Masks).Of
def s30 : Sig := ⟨⟨[.dat (.ext 0), .dat (.int .i64)], []⟩, ⟨[.dat (.slice (.int .u64))], []⟩⟩
def h30 : How s30 := .orc (fun _ x => maskOf x)
-- math/bits.Add64
def s47 : Sig := ⟨⟨[.dat (.int .u64), .dat (.int .u64), .dat (.int .u64)], []⟩, ⟨[.dat (.int .u64), .dat (.int .u64)], []⟩⟩
def h47 : How s47 := .orc (fun _ x => add64 x)
-- math/bits.Sub64
def s48 : Sig := ⟨⟨[.dat (.int .u64), .dat (.int .u64), .dat (.int .u64)], []⟩, ⟨[.dat (.int .u64), .dat (.int .u64)], []⟩⟩
def h48 : How s48 := .orc (fun _ x => sub64 x)
noncomputable def E : Env := {
  fns := [⟨Sig.none, .none⟩,
    ⟨Sig.none, .none⟩,
    ⟨Sig.none, .none⟩,
    ⟨s3, h3⟩,
    ⟨Sig.none, .none⟩,
    ⟨Sig.none, .none⟩,
    ⟨Sig.none, .none⟩,
    ⟨Sig.none, .none⟩,
    ⟨Sig.none, .none⟩,
    ⟨s9, h9⟩,
    ⟨s10, h10⟩,
    ⟨s11, h11⟩,
    ⟨s12, h12⟩,
    ⟨s13, h13⟩,
    ⟨Sig.none, .none⟩,
    ⟨Sig.none, .none⟩,
    ⟨Sig.none, .none⟩,
    ⟨Sig.none, .none⟩,
    ⟨Sig.none, .none⟩,
    ⟨Sig.none, .none⟩,
    ⟨Sig.none, .none⟩,
    ⟨Sig.none, .none⟩,
    ⟨Sig.none, .none⟩,
    ⟨s23, h23⟩,
    ⟨s24, h24⟩,
    ⟨s25, h25⟩,
    ⟨s26, h26⟩,
    ⟨s27, h27⟩,
    ⟨s28, h28⟩,
    ⟨s29, h29⟩,
    ⟨s30, h30⟩,
    ⟨s31, h31⟩,
    ⟨s32, h32⟩,
    ⟨s33, h33⟩,
    ⟨Sig.none, .none⟩,
    ⟨Sig.none, .none⟩,
    ⟨Sig.none, .none⟩,
    ⟨Sig.none, .none⟩,
    ⟨Sig.none, .none⟩,
    ⟨Sig.none, .none⟩,
    ⟨Sig.none, .none⟩,
    ⟨Sig.none, .none⟩,
    ⟨Sig.none, .none⟩,
    ⟨Sig.none, .none⟩,
    ⟨Sig.none, .none⟩,
    ⟨s45, h45⟩,
    ⟨s46, h46⟩,
    ⟨s47, h47⟩,
    ⟨s48, h48⟩,
    ⟨Sig.none, .none⟩,
    ⟨Sig.none, .none⟩,
    ⟨Sig.none, .none⟩,
    ⟨s52, h52⟩,
    ⟨s53, h53⟩,
    ⟨s54, h54⟩],
  tys := [none,
    none,
    some ⟨(.int .i64), 0⟩,
    some ⟨(.int .i64), 0⟩,
    some ⟨.bool, 0⟩,
    none,
    none,
    none,
    none,
    none,
    none,
    none,
    none,
    none,
    none,
    none,
    none,
    none,
    none,
    none,
    none,
    none,
    some ⟨(.slice (.int .u64)), 8⟩,
    none,
    some ⟨(.int .u64), 0⟩,
    some ⟨(.slice (.slice (.int .u64))), 24⟩,
    none,
    some ⟨(.slice (.int .i64)), 8⟩,
    none,
    none,
    none,
    none,
    none,
    none,
    none,
    none,
    none,
    none,
    none,
    none,
    none,
    none,
    some ⟨(.ext 0), 0⟩,
    none,
    none,
    none,
    none,
    none,
    none,
    none,
    none,
    none,
    none,
    none,
    none,
    none,
    none,
    none,
    none,
    none,
    none,
    some ⟨(.int .u64), 0⟩,
    none,
    none,
    none,
    none,
    none,
    none,
    none,
    none,
    none,
    none,
    none,
    none,
    none,
    none,
    none,
    none,
    none,
    none,
    none,
    none,
    none,
    none,
    none,
    none,
    none,
    none,
    none,
    none,
    none,
    none,
    none,
    none,
    none,
    none,
    none,
    none,
    none,
    none] }
theorem tys : tysOK Try.prog E.tys = true := by decide +kernel
theorem ok3 (X : ExtRep) : EntryOK Try.prog X 3 s3 h3 := ⟨Try.func3, rfl, by decide, by decide⟩
theorem ok9 (X : ExtRep) : EntryOK Try.prog X 9 s9 h9 := ⟨Try.func9, rfl, by decide, by decide⟩
theorem ok10 (X : ExtRep) : EntryOK Try.prog X 10 s10 h10 := ⟨Try.func10, rfl, by decide, by decide⟩
theorem ok11 (X : ExtRep) : EntryOK Try.prog X 11 s11 h11 := ⟨Try.func11, rfl, by decide, by decide⟩
theorem ok12 (X : ExtRep) : EntryOK Try.prog X 12 s12 h12 := ⟨Try.func12, rfl, by decide, by decide⟩
theorem ok13 (X : ExtRep) : EntryOK Try.prog X 13 s13 h13 := ⟨Try.func13, rfl, by decide, by decide⟩
theorem ok23 (X : ExtRep) : EntryOK Try.prog X 23 s23 h23 := ⟨Try.func23, rfl, by decide, by decide⟩
theorem ok24 (X : ExtRep) : EntryOK Try.prog X 24 s24 h24 := ⟨Try.func24, rfl, by decide, by decide⟩
theorem ok25 (X : ExtRep) : EntryOK Try.prog X 25 s25 h25 := ⟨Try.func25, rfl, by decide, by decide⟩
theorem ok26 (X : ExtRep) : EntryOK Try.prog X 26 s26 h26 := ⟨Try.func26, rfl, by decide, by decide⟩
theorem ok27 (X : ExtRep) : EntryOK Try.prog X 27 s27 h27 := ⟨Try.func27, rfl, by decide, by decide⟩
theorem ok29 (X : ExtRep) : EntryOK Try.prog X 29 s29 h29 := ⟨Try.func29, rfl, by decide, by decide⟩
theorem ok31 (X : ExtRep) : EntryOK Try.prog X 31 s31 h31 := ⟨Try.func31, rfl, by decide, by decide⟩
theorem ok32 (X : ExtRep) : EntryOK Try.prog X 32 s32 h32 := ⟨Try.func32, rfl, by decide, by decide⟩
theorem ok33 (X : ExtRep) : EntryOK Try.prog X 33 s33 h33 := ⟨Try.func33, rfl, by decide, by decide⟩
theorem ok45 (X : ExtRep) : EntryOK Try.prog X 45 s45 h45 := ⟨Try.func45, rfl, by decide, by decide⟩
theorem ok46 (X : ExtRep) : EntryOK Try.prog X 46 s46 h46 := ⟨Try.func46, rfl, by decide, by decide⟩
theorem ok52 (X : ExtRep) : EntryOK Try.prog X 52 s52 h52 := ⟨Try.func52, rfl, by decide, by decide⟩
theorem ok53 (X : ExtRep) : EntryOK Try.prog X 53 s53 h53 := ⟨Try.func53, rfl, by decide, by decide⟩
theorem ok54 (X : ExtRep) : EntryOK Try.prog X 54 s54 h54 := ⟨Try.func54, rfl, by decide, by decide⟩
-- tatting/tattinglaw20.HyyroKnown
-- tatting/hyyro.Row
def r9 (f23 : (List Int) → Int → Option ((List Int))) (f24 : (List Int) → (List Int) → Option ((List Int))) (f25 : (List Int) → (List Int) → Option ((List Int))) (f26 : (List Int) → (List Int) → Option ((List Int))) (f27 : (List Int) → (List Int) → Option ((List Int))) (a0 : (List Int)) (a1 : (List Int)) (a2 : Int) : Option ((List Int)) :=
Option.bind (f23 a0 a2) fun y1 =>
Option.bind (f23 a1 a2) fun y2 =>
Option.bind (f24 y1 y2) fun y3 =>
Option.bind (f26 y1 y3) fun y4 =>
Option.bind (f27 y1 y3) fun y5 =>
Option.bind (f25 y4 y5) fun y6 =>
Option.bind (f23 y6 a2) fun y7 =>
some y7
-- tatting/hyyro.Rows
def F10_0 (f9 : (List Int) → (List Int) → Int → Option ((List Int))) (f28 : (List Int) → Option ((List Int))) (f29 : Int → Option ((List Int))) (f30 : (List Int) → Int → Option ((List Int))) (self : ((List Int) × (List Int) × (List Int) × Int × Int × (List (List Int))) → Option (((List Int) × (List Int) × (List Int) × Int × Int × (List (List Int))) ⊕ ((List (List Int))))) (z8 : (List Int) × (List Int) × (List Int) × Int × Int × (List (List Int))) : Option (((List Int) × (List Int) × (List Int) × Int × Int × (List (List Int))) ⊕ ((List (List Int)))) :=
let v9 : Bool := decide (z8.2.2.2.2.1 < z8.2.2.2.1)
bif v9 then
if 0 ≤ z8.2.2.2.2.1 ∧ z8.2.2.2.2.1 < (z8.2.2.1.length : Int) then
let v10 : Int := z8.2.2.1.getD z8.2.2.2.2.1.toNat (0 : Int)
if 0 ≤ z8.2.2.2.2.1 ∧ z8.2.2.2.2.1 < (z8.2.2.2.2.2.length : Int) then
let v11 : (List Int) := (z8.2.2.2.2.2.getD z8.2.2.2.2.1.toNat ([] : List Int))
Option.bind (f30 z8.2.1 v10) fun y12 =>
let v13 : Int := (z8.1.length : Int)
Option.bind (f9 v11 y12 v13) fun y14 =>
let v15 : (List (List Int)) := ([y14] : List (List Int))
if (z8.2.2.2.2.2.length + v15.length) * 24 ≤ 140737488355328 ∧ z8.2.2.2.2.2.length + v15.length ≤ 140737488355328 then
let v16 : (List (List Int)) := z8.2.2.2.2.2 ++ v15
let v17 : Int := IntKind.wrap .i64 (z8.2.2.2.2.1 + (1 : Int))
self (z8.1, z8.2.1, z8.2.2.1, z8.2.2.2.1, v17, v16)
else none
else none
else none
else
some (.inl (z8.1, z8.2.1, z8.2.2.1, z8.2.2.2.1, z8.2.2.2.2.1, z8.2.2.2.2.2))
def r10 (f9 : (List Int) → (List Int) → Int → Option ((List Int))) (f28 : (List Int) → Option ((List Int))) (f29 : Int → Option ((List Int))) (f30 : (List Int) → Int → Option ((List Int))) (lp0 : ((List Int) × (List Int) × (List Int) × Int × Int × (List (List Int))) → Option (((List Int) × (List Int) × (List Int) × Int × Int × (List (List Int))) ⊕ ((List (List Int))))) (a0 : (List Int)) (a1 : (List Int)) : Option ((List (List Int))) :=
Option.bind (f28 a1) fun y1 =>
let v2 : Int := (a1.length : Int)
Option.bind (f29 v2) fun y3 =>
let v4 : (List (List Int)) := ([y3] : List (List Int))
let v5 : Int := (a0.length : Int)
Option.bind (lp0 (a1, y1, a0, v5, (0 : Int), v4)) fun s6 => onSum s6 (fun y7 =>
some y7.2.2.2.2.2) (fun o18 => some o18)
-- tatting/tattinglaw20.awake
def r11 (f9 : (List Int) → (List Int) → Int → Option ((List Int))) (f10 : (List Int) → (List Int) → Option ((List (List Int)))) (f12 : (List Int) → (List Int) → Option (Int)) (f13 : Int → Int → Option (Int)) (_ : Unit) : Option (Bool) :=
let v1 : (List Int) := ([(3 : Int)] : List Int)
let v2 : (List Int) := ([(2 : Int)] : List Int)
Option.bind (f9 v1 v2 (2 : Int)) fun y3 =>
let v4 : (List Int) := ([(7 : Int)] : List Int)
let v5 : (List Int) := ([(5 : Int), (7 : Int)] : List Int)
Option.bind (f10 v4 v5) fun y6 =>
let v7 : Int := (y3.length : Int)
let v8 : Bool := decide (v7 = (1 : Int))
bif v8 == true then
bif v8 == true then
if 0 ≤ (0 : Int) ∧ (0 : Int) < (y3.length : Int) then
let v9 : Int := y3.getD (0 : Int).toNat (0 : Int)
bif v8 == true then
bif v8 == true then
let v10 : Bool := decide (v9 = (1 : Int))
bif v8 then
bif v10 == true then
bif v10 == true then
let v11 : Int := (y6.length : Int)
bif v10 == true then
let v12 : Bool := decide (v11 = (2 : Int))
bif v10 then
bif v12 == true then
bif v12 == true then
if 0 ≤ (0 : Int) ∧ (0 : Int) < (y6.length : Int) then
let v13 : (List Int) := y6.getD (0 : Int).toNat ([] : List Int)
bif v12 == true then
bif v12 == true then
let v14 : Int := (v13.length : Int)
bif v12 == true then
let v15 : Bool := decide (v14 = (1 : Int))
bif v12 then
bif v15 == true then
bif v15 == true then
if 0 ≤ (0 : Int) ∧ (0 : Int) < (y6.length : Int) then
let v16 : (List Int) := y6.getD (0 : Int).toNat ([] : List Int)
bif v15 == true then
bif v15 == true then
if 0 ≤ (0 : Int) ∧ (0 : Int) < (v16.length : Int) then
let v17 : Int := v16.getD (0 : Int).toNat (0 : Int)
bif v15 == true then
bif v15 == true then
let v18 : Bool := decide (v17 = (3 : Int))
bif v15 then
bif v18 == true then
bif v18 == true then
if 0 ≤ (1 : Int) ∧ (1 : Int) < (y6.length : Int) then
let v19 : (List Int) := y6.getD (1 : Int).toNat ([] : List Int)
bif v18 == true then
bif v18 == true then
let v20 : Int := (v19.length : Int)
bif v18 == true then
let v21 : Bool := decide (v20 = (1 : Int))
bif v18 then
bif v21 == true then
bif v21 == true then
if 0 ≤ (1 : Int) ∧ (1 : Int) < (y6.length : Int) then
let v22 : (List Int) := y6.getD (1 : Int).toNat ([] : List Int)
bif v21 == true then
bif v21 == true then
if 0 ≤ (0 : Int) ∧ (0 : Int) < (v22.length : Int) then
let v23 : Int := v22.getD (0 : Int).toNat (0 : Int)
bif v21 == true then
bif v21 == true then
let v24 : Bool := decide (v23 = (1 : Int))
bif v21 then
bif v24 == true then
let v25 : (List Int) := ([(7 : Int)] : List Int)
bif v24 == true then
let v26 : (List Int) := ([(5 : Int), (7 : Int)] : List Int)
bif v24 == true then
Option.bind (f12 v25 v26) fun y27 =>
bif v24 == true then
let v28 : Bool := decide (y27 = (1 : Int))
bif v24 then
bif v28 == true then
Option.bind (f13 (3 : Int) (65 : Int)) fun y29 =>
bif v28 == true then
let v30 : Bool := decide (y29 = (6 : Int))
bif v28 then
some v30
else
some false
else
bif v28 then
none
else
some false
else
bif v28 == true then
none
else
bif v28 then
none
else
some false
else
some false
else
bif v24 then
none
else
some false
else
bif v24 == true then
none
else
bif v24 then
none
else
some false
else
bif v24 == true then
none
else
bif v24 == true then
none
else
bif v24 then
none
else
some false
else
bif v24 == true then
let v31 : (List Int) := ([(5 : Int), (7 : Int)] : List Int)
bif v24 == true then
none
else
bif v24 == true then
none
else
bif v24 then
none
else
some false
else
bif v24 == true then
none
else
bif v24 == true then
none
else
bif v24 then
none
else
some false
else
some false
else
bif v21 then
none
else
some false
else
bif v21 == true then
none
else
bif v21 then
none
else
some false
else none
else
bif v21 == true then
none
else
bif v21 == true then
none
else
bif v21 then
none
else
some false
else
bif v21 == true then
none
else
bif v21 == true then
none
else
bif v21 == true then
none
else
bif v21 then
none
else
some false
else none
else
bif v21 == true then
none
else
bif v21 == true then
none
else
bif v21 == true then
none
else
bif v21 == true then
none
else
bif v21 then
none
else
some false
else
bif v21 == true then
none
else
bif v21 == true then
none
else
bif v21 == true then
none
else
bif v21 == true then
none
else
bif v21 == true then
none
else
bif v21 then
none
else
some false
else
some false
else
bif v18 then
none
else
some false
else
bif v18 == true then
none
else
bif v18 then
none
else
some false
else
bif v18 == true then
none
else
bif v18 == true then
none
else
bif v18 then
none
else
some false
else none
else
bif v18 == true then
none
else
bif v18 == true then
none
else
bif v18 == true then
none
else
bif v18 then
none
else
some false
else
bif v18 == true then
none
else
bif v18 == true then
none
else
bif v18 == true then
none
else
bif v18 == true then
none
else
bif v18 then
none
else
some false
else
some false
else
bif v15 then
none
else
some false
else
bif v15 == true then
none
else
bif v15 then
none
else
some false
else none
else
bif v15 == true then
none
else
bif v15 == true then
none
else
bif v15 then
none
else
some false
else
bif v15 == true then
none
else
bif v15 == true then
none
else
bif v15 == true then
none
else
bif v15 then
none
else
some false
else none
else
bif v15 == true then
none
else
bif v15 == true then
none
else
bif v15 == true then
none
else
bif v15 == true then
none
else
bif v15 then
none
else
some false
else
bif v15 == true then
none
else
bif v15 == true then
none
else
bif v15 == true then
none
else
bif v15 == true then
none
else
bif v15 == true then
none
else
bif v15 then
none
else
some false
else
some false
else
bif v12 then
none
else
some false
else
bif v12 == true then
none
else
bif v12 then
none
else
some false
else
bif v12 == true then
none
else
bif v12 == true then
none
else
bif v12 then
none
else
some false
else none
else
bif v12 == true then
none
else
bif v12 == true then
none
else
bif v12 == true then
none
else
bif v12 then
none
else
some false
else
bif v12 == true then
none
else
bif v12 == true then
none
else
bif v12 == true then
none
else
bif v12 == true then
none
else
bif v12 then
none
else
some false
else
some false
else
bif v10 then
none
else
some false
else
bif v10 == true then
none
else
bif v10 then
none
else
some false
else
bif v10 == true then
none
else
bif v10 == true then
none
else
bif v10 then
none
else
some false
else
some false
else
bif v8 then
none
else
some false
else
bif v8 == true then
none
else
bif v8 then
none
else
some false
else none
else
bif v8 == true then
none
else
bif v8 == true then
none
else
bif v8 then
none
else
some false
else
bif v8 == true then
none
else
bif v8 == true then
none
else
bif v8 == true then
none
else
bif v8 then
none
else
some false
-- tatting/hyyro.Len
def F12_0 (f9 : (List Int) → (List Int) → Int → Option ((List Int))) (f28 : (List Int) → Option ((List Int))) (f29 : Int → Option ((List Int))) (f30 : (List Int) → Int → Option ((List Int))) (f31 : (List Int) → Int → Option (Int)) (self : ((List Int) × (List Int) × (List Int) × (List Int) × Int × Int) → Option (((List Int) × (List Int) × (List Int) × (List Int) × Int × Int) ⊕ (Int))) (z7 : (List Int) × (List Int) × (List Int) × (List Int) × Int × Int) : Option (((List Int) × (List Int) × (List Int) × (List Int) × Int × Int) ⊕ (Int)) :=
let v8 : Bool := decide (z7.2.2.2.2.2 < z7.2.2.2.2.1)
bif v8 then
if 0 ≤ z7.2.2.2.2.2 ∧ z7.2.2.2.2.2 < (z7.2.2.2.1.length : Int) then
let v9 : Int := z7.2.2.2.1.getD z7.2.2.2.2.2.toNat (0 : Int)
Option.bind (f30 z7.2.1 v9) fun y10 =>
let v11 : Int := (z7.1.length : Int)
Option.bind (f9 z7.2.2.1 y10 v11) fun y12 =>
let v13 : Int := IntKind.wrap .i64 (z7.2.2.2.2.2 + (1 : Int))
self (z7.1, z7.2.1, y12, z7.2.2.2.1, z7.2.2.2.2.1, v13)
else none
else
some (.inl (z7.1, z7.2.1, z7.2.2.1, z7.2.2.2.1, z7.2.2.2.2.1, z7.2.2.2.2.2))
def r12 (f9 : (List Int) → (List Int) → Int → Option ((List Int))) (f28 : (List Int) → Option ((List Int))) (f29 : Int → Option ((List Int))) (f30 : (List Int) → Int → Option ((List Int))) (f31 : (List Int) → Int → Option (Int)) (lp0 : ((List Int) × (List Int) × (List Int) × (List Int) × Int × Int) → Option (((List Int) × (List Int) × (List Int) × (List Int) × Int × Int) ⊕ (Int))) (a0 : (List Int)) (a1 : (List Int)) : Option (Int) :=
Option.bind (f28 a1) fun y1 =>
let v2 : Int := (a1.length : Int)
Option.bind (f29 v2) fun y3 =>
let v4 : Int := (a0.length : Int)
Option.bind (lp0 (a1, y1, y3, a0, v4, (0 : Int))) fun s5 => onSum s5 (fun y6 =>
let v15 : Int := (y6.1.length : Int)
let v16 : Int := (y6.1.length : Int)
Option.bind (f31 y6.2.2.1 v16) fun y17 =>
let v18 : Int := IntKind.wrap .i64 (v15 - y17)
some v18) (fun o14 => some o14)
-- tatting/hyyro.Steps
def r13 (f32 : Int → Option (Bool)) (f33 : Int → Option (Int)) (a0 : Int) (a1 : Int) : Option (Int) :=
Option.bind (f32 a0) fun y1 =>
let v2 : Bool := !y1
bif v2 == false then
bif v2 == false then
Option.bind (f32 a1) fun y3 =>
bif v2 == false then
let v4 : Bool := !y3
bif v2 then
some (0 : Int)
else
bif v4 then
some (0 : Int)
else
Option.bind (f33 a1) fun y5 =>
let v6 : Int := IntKind.wrap .i64 (a0 * y5)
some v6
else
bif v2 then
some (0 : Int)
else
none
else
bif v2 == false then
none
else
bif v2 then
some (0 : Int)
else
none
else
bif v2 == false then
none
else
bif v2 == false then
none
else
bif v2 then
some (0 : Int)
else
none
-- tatting/vec.Fit
def F23_0 (f33 : Int → Option (Int)) (f45 : (List Int) → Int → Option (Int)) (f46 : Int → Int → Option (Int)) (self : ((List Int) × Int × Int × Int × (List Int)) → Option (((List Int) × Int × Int × Int × (List Int)) ⊕ ((List Int)))) (z6 : (List Int) × Int × Int × Int × (List Int)) : Option (((List Int) × Int × Int × Int × (List Int)) ⊕ ((List Int))) :=
let v7 : Bool := decide (z6.2.2.2.1 < z6.2.2.1)
bif v7 then
Option.bind (f45 z6.1 z6.2.2.2.1) fun y8 =>
Option.bind (f46 z6.2.1 z6.2.2.2.1) fun y9 =>
let v10 : Int := bitop .and .u64 y8 y9
if 0 ≤ z6.2.2.2.1 ∧ z6.2.2.2.1 < (z6.2.2.2.2.length : Int) then
let v11 : (List Int) := z6.2.2.2.2.set z6.2.2.2.1.toNat v10
let v12 : Int := IntKind.wrap .i64 (z6.2.2.2.1 + (1 : Int))
self (z6.1, z6.2.1, z6.2.2.1, v12, v11)
else none
else
some (.inl (z6.1, z6.2.1, z6.2.2.1, z6.2.2.2.1, z6.2.2.2.2))
def r23 (f33 : Int → Option (Int)) (f45 : (List Int) → Int → Option (Int)) (f46 : Int → Int → Option (Int)) (lp0 : ((List Int) × Int × Int × Int × (List Int)) → Option (((List Int) × Int × Int × Int × (List Int)) ⊕ ((List Int)))) (a0 : (List Int)) (a1 : Int) : Option ((List Int)) :=
Option.bind (f33 a1) fun y1 =>
if 0 ≤ y1 ∧ y1 ≤ y1 ∧ y1 * (8 : Int) ≤ 140737488355328 ∧ y1 ≤ 140737488355328 then
let v2 : (List Int) := List.replicate y1.toNat (0 : Int)
let v3 : Int := (v2.length : Int)
Option.bind (lp0 (a0, a1, v3, (0 : Int), v2)) fun s4 => onSum s4 (fun y5 =>
some y5.2.2.2.2) (fun o13 => some o13)
else none
-- tatting/vec.And
def F24_0 (f45 : (List Int) → Int → Option (Int)) (self : ((List Int) × (List Int) × Int × Int × (List Int)) → Option (((List Int) × (List Int) × Int × Int × (List Int)) ⊕ ((List Int)))) (z8 : (List Int) × (List Int) × Int × Int × (List Int)) : Option (((List Int) × (List Int) × Int × Int × (List Int)) ⊕ ((List Int))) :=
let v9 : Bool := decide (z8.2.2.2.1 < z8.2.2.1)
bif v9 then
Option.bind (f45 z8.1 z8.2.2.2.1) fun y10 =>
Option.bind (f45 z8.2.1 z8.2.2.2.1) fun y11 =>
let v12 : Int := bitop .and .u64 y10 y11
if 0 ≤ z8.2.2.2.1 ∧ z8.2.2.2.1 < (z8.2.2.2.2.length : Int) then
let v13 : (List Int) := z8.2.2.2.2.set z8.2.2.2.1.toNat v12
let v14 : Int := IntKind.wrap .i64 (z8.2.2.2.1 + (1 : Int))
self (z8.1, z8.2.1, z8.2.2.1, v14, v13)
else none
else
some (.inl (z8.1, z8.2.1, z8.2.2.1, z8.2.2.2.1, z8.2.2.2.2))
def r24 (f45 : (List Int) → Int → Option (Int)) (lp0 : ((List Int) × (List Int) × Int × Int × (List Int)) → Option (((List Int) × (List Int) × Int × Int × (List Int)) ⊕ ((List Int)))) (a0 : (List Int)) (a1 : (List Int)) : Option ((List Int)) :=
let v1 : Int := (a0.length : Int)
let v2 : Int := (a1.length : Int)
let v3 : Int := if v2 > v1 then v2 else v1
if 0 ≤ v3 ∧ v3 ≤ v3 ∧ v3 * (8 : Int) ≤ 140737488355328 ∧ v3 ≤ 140737488355328 then
let v4 : (List Int) := List.replicate v3.toNat (0 : Int)
let v5 : Int := (v4.length : Int)
Option.bind (lp0 (a0, a1, v5, (0 : Int), v4)) fun s6 => onSum s6 (fun y7 =>
some y7.2.2.2.2) (fun o15 => some o15)
else none
-- tatting/vec.Or
def F25_0 (f45 : (List Int) → Int → Option (Int)) (self : ((List Int) × (List Int) × Int × Int × (List Int)) → Option (((List Int) × (List Int) × Int × Int × (List Int)) ⊕ ((List Int)))) (z8 : (List Int) × (List Int) × Int × Int × (List Int)) : Option (((List Int) × (List Int) × Int × Int × (List Int)) ⊕ ((List Int))) :=
let v9 : Bool := decide (z8.2.2.2.1 < z8.2.2.1)
bif v9 then
Option.bind (f45 z8.1 z8.2.2.2.1) fun y10 =>
Option.bind (f45 z8.2.1 z8.2.2.2.1) fun y11 =>
let v12 : Int := bitop .or .u64 y10 y11
if 0 ≤ z8.2.2.2.1 ∧ z8.2.2.2.1 < (z8.2.2.2.2.length : Int) then
let v13 : (List Int) := z8.2.2.2.2.set z8.2.2.2.1.toNat v12
let v14 : Int := IntKind.wrap .i64 (z8.2.2.2.1 + (1 : Int))
self (z8.1, z8.2.1, z8.2.2.1, v14, v13)
else none
else
some (.inl (z8.1, z8.2.1, z8.2.2.1, z8.2.2.2.1, z8.2.2.2.2))
def r25 (f45 : (List Int) → Int → Option (Int)) (lp0 : ((List Int) × (List Int) × Int × Int × (List Int)) → Option (((List Int) × (List Int) × Int × Int × (List Int)) ⊕ ((List Int)))) (a0 : (List Int)) (a1 : (List Int)) : Option ((List Int)) :=
let v1 : Int := (a0.length : Int)
let v2 : Int := (a1.length : Int)
let v3 : Int := if v2 > v1 then v2 else v1
if 0 ≤ v3 ∧ v3 ≤ v3 ∧ v3 * (8 : Int) ≤ 140737488355328 ∧ v3 ≤ 140737488355328 then
let v4 : (List Int) := List.replicate v3.toNat (0 : Int)
let v5 : Int := (v4.length : Int)
Option.bind (lp0 (a0, a1, v5, (0 : Int), v4)) fun s6 => onSum s6 (fun y7 =>
some y7.2.2.2.2) (fun o15 => some o15)
else none
-- tatting/vec.Add
def F26_0 (f45 : (List Int) → Int → Option (Int)) (f47 : Int → Int → Int → Option (Int × Int)) (self : ((List Int) × (List Int) × Int × Int × Int × (List Int)) → Option (((List Int) × (List Int) × Int × Int × Int × (List Int)) ⊕ ((List Int)))) (z8 : (List Int) × (List Int) × Int × Int × Int × (List Int)) : Option (((List Int) × (List Int) × Int × Int × Int × (List Int)) ⊕ ((List Int))) :=
let v9 : Bool := decide (z8.2.2.2.2.1 < z8.2.2.2.1)
bif v9 then
Option.bind (f45 z8.1 z8.2.2.2.2.1) fun y10 =>
Option.bind (f45 z8.2.1 z8.2.2.2.2.1) fun y11 =>
Option.bind (f47 y10 y11 z8.2.2.1) fun y12 =>
if 0 ≤ z8.2.2.2.2.1 ∧ z8.2.2.2.2.1 < (z8.2.2.2.2.2.length : Int) then
let v13 : (List Int) := z8.2.2.2.2.2.set z8.2.2.2.2.1.toNat y12.1
let v14 : Int := IntKind.wrap .i64 (z8.2.2.2.2.1 + (1 : Int))
self (z8.1, z8.2.1, y12.2, z8.2.2.2.1, v14, v13)
else none
else
some (.inl (z8.1, z8.2.1, z8.2.2.1, z8.2.2.2.1, z8.2.2.2.2.1, z8.2.2.2.2.2))
def r26 (f45 : (List Int) → Int → Option (Int)) (f47 : Int → Int → Int → Option (Int × Int)) (lp0 : ((List Int) × (List Int) × Int × Int × Int × (List Int)) → Option (((List Int) × (List Int) × Int × Int × Int × (List Int)) ⊕ ((List Int)))) (a0 : (List Int)) (a1 : (List Int)) : Option ((List Int)) :=
let v1 : Int := (a0.length : Int)
let v2 : Int := (a1.length : Int)
let v3 : Int := if v2 > v1 then v2 else v1
if 0 ≤ v3 ∧ v3 ≤ v3 ∧ v3 * (8 : Int) ≤ 140737488355328 ∧ v3 ≤ 140737488355328 then
let v4 : (List Int) := List.replicate v3.toNat (0 : Int)
let v5 : Int := (v4.length : Int)
Option.bind (lp0 (a0, a1, (0 : Int), v5, (0 : Int), v4)) fun s6 => onSum s6 (fun y7 =>
some y7.2.2.2.2.2) (fun o15 => some o15)
else none
-- tatting/vec.Sub
def F27_0 (f45 : (List Int) → Int → Option (Int)) (f48 : Int → Int → Int → Option (Int × Int)) (self : ((List Int) × (List Int) × Int × Int × Int × (List Int)) → Option (((List Int) × (List Int) × Int × Int × Int × (List Int)) ⊕ ((List Int)))) (z8 : (List Int) × (List Int) × Int × Int × Int × (List Int)) : Option (((List Int) × (List Int) × Int × Int × Int × (List Int)) ⊕ ((List Int))) :=
let v9 : Bool := decide (z8.2.2.2.2.1 < z8.2.2.2.1)
bif v9 then
Option.bind (f45 z8.1 z8.2.2.2.2.1) fun y10 =>
Option.bind (f45 z8.2.1 z8.2.2.2.2.1) fun y11 =>
Option.bind (f48 y10 y11 z8.2.2.1) fun y12 =>
if 0 ≤ z8.2.2.2.2.1 ∧ z8.2.2.2.2.1 < (z8.2.2.2.2.2.length : Int) then
let v13 : (List Int) := z8.2.2.2.2.2.set z8.2.2.2.2.1.toNat y12.1
let v14 : Int := IntKind.wrap .i64 (z8.2.2.2.2.1 + (1 : Int))
self (z8.1, z8.2.1, y12.2, z8.2.2.2.1, v14, v13)
else none
else
some (.inl (z8.1, z8.2.1, z8.2.2.1, z8.2.2.2.1, z8.2.2.2.2.1, z8.2.2.2.2.2))
def r27 (f45 : (List Int) → Int → Option (Int)) (f48 : Int → Int → Int → Option (Int × Int)) (lp0 : ((List Int) × (List Int) × Int × Int × Int × (List Int)) → Option (((List Int) × (List Int) × Int × Int × Int × (List Int)) ⊕ ((List Int)))) (a0 : (List Int)) (a1 : (List Int)) : Option ((List Int)) :=
let v1 : Int := (a0.length : Int)
let v2 : Int := (a1.length : Int)
let v3 : Int := if v2 > v1 then v2 else v1
if 0 ≤ v3 ∧ v3 ≤ v3 ∧ v3 * (8 : Int) ≤ 140737488355328 ∧ v3 ≤ 140737488355328 then
let v4 : (List Int) := List.replicate v3.toNat (0 : Int)
let v5 : Int := (v4.length : Int)
Option.bind (lp0 (a0, a1, (0 : Int), v5, (0 : Int), v4)) fun s6 => onSum s6 (fun y7 =>
some y7.2.2.2.2.2) (fun o15 => some o15)
else none
-- tatting/vec.Ones
def r29 (f52 : (List Int) → Int → Option ((List Int))) (a0 : Int) : Option ((List Int)) :=
Option.bind (f52 ([] : List Int) a0) fun y1 =>
some y1
-- tatting/vec.Count
def F31_0 (f23 : (List Int) → Int → Option ((List Int))) (f53 : Int → Option (Int)) (self : (Int × (List Int) × Int × Int) → Option ((Int × (List Int) × Int × Int) ⊕ (Int))) (z5 : Int × (List Int) × Int × Int) : Option ((Int × (List Int) × Int × Int) ⊕ (Int)) :=
let v6 : Bool := decide (z5.2.2.2 < z5.2.2.1)
bif v6 then
if 0 ≤ z5.2.2.2 ∧ z5.2.2.2 < (z5.2.1.length : Int) then
let v7 : Int := z5.2.1.getD z5.2.2.2.toNat (0 : Int)
Option.bind (f53 v7) fun y8 =>
let v9 : Int := IntKind.wrap .i64 (z5.1 + y8)
let v10 : Int := IntKind.wrap .i64 (z5.2.2.2 + (1 : Int))
self (v9, z5.2.1, z5.2.2.1, v10)
else none
else
some (.inl (z5.1, z5.2.1, z5.2.2.1, z5.2.2.2))
def r31 (f23 : (List Int) → Int → Option ((List Int))) (f53 : Int → Option (Int)) (lp0 : (Int × (List Int) × Int × Int) → Option ((Int × (List Int) × Int × Int) ⊕ (Int))) (a0 : (List Int)) (a1 : Int) : Option (Int) :=
Option.bind (f23 a0 a1) fun y1 =>
let v2 : Int := (y1.length : Int)
Option.bind (lp0 ((0 : Int), y1, v2, (0 : Int))) fun s3 => onSum s3 (fun y4 =>
some y4.1) (fun o11 => some o11)
-- tatting/hyyro.is
def r32 (a0 : Int) : Option (Bool) :=
let v1 : Bool := decide (a0 ≥ (0 : Int))
bif v1 == true then
bif v1 == true then
let v2 : Bool := decide (a0 ≤ (1048576 : Int))
bif v1 then
some v2
else
some false
else
bif v1 then
none
else
some false
else
bif v1 == true then
none
else
bif v1 then
none
else
some false
-- tatting/vec.Words
def r33 (f54 : Int → Option (Int)) (a0 : Int) : Option (Int) :=
Option.bind (f54 a0) fun y1 =>
let v2 : Int := IntKind.wrap .i64 (y1 + (64 : Int))
let v3 : Int := IntKind.wrap .i64 (v2 - (1 : Int))
if (64 : Int) = 0 then none else
let v4 : Int := IntKind.wrap .i64 (v3.tdiv (64 : Int))
some v4
-- tatting/vec.at
def r45 (a0 : (List Int)) (a1 : Int) : Option (Int) :=
let v1 : Int := (a0.length : Int)
let v2 : Bool := decide (a1 < v1)
bif v2 then
if 0 ≤ a1 ∧ a1 < (a0.length : Int) then
let v3 : Int := a0.getD a1.toNat (0 : Int)
some v3
else none
else
some (0 : Int)
-- tatting/vec.mask
def r46 (f54 : Int → Option (Int)) (a0 : Int) (a1 : Int) : Option (Int) :=
Option.bind (f54 a0) fun y1 =>
let v2 : Int := IntKind.wrap .i64 ((64 : Int) * a1)
let v3 : Int := IntKind.wrap .i64 (y1 - v2)
let v4 : Bool := decide (v3 ≥ (64 : Int))
bif v4 then
some (18446744073709551615 : Int)
else
let v5 : Int := IntKind.wrap .u64 v3
if v5 < 0 then none else
let v6 : Int := IntKind.wrap .u64 ((1 : Int) * 2 ^ (min v5.toNat (IntKind.bits .u64)))
let v7 : Int := IntKind.wrap .u64 (v6 - (1 : Int))
some v7
-- tatting/vec.Not
def F52_0 (f33 : Int → Option (Int)) (f45 : (List Int) → Int → Option (Int)) (f46 : Int → Int → Option (Int)) (self : ((List Int) × Int × Int × Int × (List Int)) → Option (((List Int) × Int × Int × Int × (List Int)) ⊕ ((List Int)))) (z6 : (List Int) × Int × Int × Int × (List Int)) : Option (((List Int) × Int × Int × Int × (List Int)) ⊕ ((List Int))) :=
let v7 : Bool := decide (z6.2.2.2.1 < z6.2.2.1)
bif v7 then
Option.bind (f45 z6.1 z6.2.2.2.1) fun y8 =>
let v9 : Int := bitop .xor .u64 (IntKind.max .u64) y8
Option.bind (f46 z6.2.1 z6.2.2.2.1) fun y10 =>
let v11 : Int := bitop .and .u64 v9 y10
if 0 ≤ z6.2.2.2.1 ∧ z6.2.2.2.1 < (z6.2.2.2.2.length : Int) then
let v12 : (List Int) := z6.2.2.2.2.set z6.2.2.2.1.toNat v11
let v13 : Int := IntKind.wrap .i64 (z6.2.2.2.1 + (1 : Int))
self (z6.1, z6.2.1, z6.2.2.1, v13, v12)
else none
else
some (.inl (z6.1, z6.2.1, z6.2.2.1, z6.2.2.2.1, z6.2.2.2.2))
def r52 (f33 : Int → Option (Int)) (f45 : (List Int) → Int → Option (Int)) (f46 : Int → Int → Option (Int)) (lp0 : ((List Int) × Int × Int × Int × (List Int)) → Option (((List Int) × Int × Int × Int × (List Int)) ⊕ ((List Int)))) (a0 : (List Int)) (a1 : Int) : Option ((List Int)) :=
Option.bind (f33 a1) fun y1 =>
if 0 ≤ y1 ∧ y1 ≤ y1 ∧ y1 * (8 : Int) ≤ 140737488355328 ∧ y1 ≤ 140737488355328 then
let v2 : (List Int) := List.replicate y1.toNat (0 : Int)
let v3 : Int := (v2.length : Int)
Option.bind (lp0 (a0, a1, v3, (0 : Int), v2)) fun s4 => onSum s4 (fun y5 =>
some y5.2.2.2.2) (fun o14 => some o14)
else none
-- math/bits.OnesCount64
def r53 (a0 : Int) : Option (Int) :=
if (1 : Int) < 0 then none else
let v1 : Int := a0.fdiv (2 ^ (min (1 : Int).toNat (IntKind.bits .u64)))
let v2 : Int := bitop .and .u64 v1 (6148914691236517205 : Int)
let v3 : Int := bitop .and .u64 a0 (6148914691236517205 : Int)
let v4 : Int := IntKind.wrap .u64 (v2 + v3)
if (2 : Int) < 0 then none else
let v5 : Int := v4.fdiv (2 ^ (min (2 : Int).toNat (IntKind.bits .u64)))
let v6 : Int := bitop .and .u64 v5 (3689348814741910323 : Int)
let v7 : Int := bitop .and .u64 v4 (3689348814741910323 : Int)
let v8 : Int := IntKind.wrap .u64 (v6 + v7)
if (4 : Int) < 0 then none else
let v9 : Int := v8.fdiv (2 ^ (min (4 : Int).toNat (IntKind.bits .u64)))
let v10 : Int := IntKind.wrap .u64 (v9 + v8)
let v11 : Int := bitop .and .u64 v10 (1085102592571150095 : Int)
if (8 : Int) < 0 then none else
let v12 : Int := v11.fdiv (2 ^ (min (8 : Int).toNat (IntKind.bits .u64)))
let v13 : Int := IntKind.wrap .u64 (v11 + v12)
if (16 : Int) < 0 then none else
let v14 : Int := v13.fdiv (2 ^ (min (16 : Int).toNat (IntKind.bits .u64)))
let v15 : Int := IntKind.wrap .u64 (v13 + v14)
if (32 : Int) < 0 then none else
let v16 : Int := v15.fdiv (2 ^ (min (32 : Int).toNat (IntKind.bits .u64)))
let v17 : Int := IntKind.wrap .u64 (v15 + v16)
let v18 : Int := IntKind.wrap .i64 v17
let v19 : Int := bitop .and .i64 v18 (127 : Int)
some v19
-- tatting/vec.width
def r54 (a0 : Int) : Option (Int) :=
let v1 : Int := if (0 : Int) > a0 then (0 : Int) else a0
let v2 : Int := if (1048576 : Int) < v1 then (1048576 : Int) else v1
some v2
def g9 (call : CallFn E) : (List Int) → (List Int) → Int → Option ((List Int)) := fun x0 x1 x2 => call 9 (x0, x1, x2)
def g10 (call : CallFn E) : (List Int) → (List Int) → Option ((List (List Int))) := fun x0 x1 => call 10 (x0, x1)
def g11 (call : CallFn E) : Unit → Option (Bool) := fun _ => call 11 ()
def g12 (call : CallFn E) : (List Int) → (List Int) → Option (Int) := fun x0 x1 => call 12 (x0, x1)
def g13 (call : CallFn E) : Int → Int → Option (Int) := fun x0 x1 => call 13 (x0, x1)
def g23 (call : CallFn E) : (List Int) → Int → Option ((List Int)) := fun x0 x1 => call 23 (x0, x1)
def g24 (call : CallFn E) : (List Int) → (List Int) → Option ((List Int)) := fun x0 x1 => call 24 (x0, x1)
def g25 (call : CallFn E) : (List Int) → (List Int) → Option ((List Int)) := fun x0 x1 => call 25 (x0, x1)
def g26 (call : CallFn E) : (List Int) → (List Int) → Option ((List Int)) := fun x0 x1 => call 26 (x0, x1)
def g27 (call : CallFn E) : (List Int) → (List Int) → Option ((List Int)) := fun x0 x1 => call 27 (x0, x1)
def g28 (call : CallFn E) : (List Int) → Option ((List Int)) := fun x0 => call 28 x0
def g29 (call : CallFn E) : Int → Option ((List Int)) := fun x0 => call 29 x0
def g30 (call : CallFn E) : (List Int) → Int → Option ((List Int)) := fun x0 x1 => call 30 (x0, x1)
def g31 (call : CallFn E) : (List Int) → Int → Option (Int) := fun x0 x1 => call 31 (x0, x1)
def g32 (call : CallFn E) : Int → Option (Bool) := fun x0 => call 32 x0
def g33 (call : CallFn E) : Int → Option (Int) := fun x0 => call 33 x0
def g45 (call : CallFn E) : (List Int) → Int → Option (Int) := fun x0 x1 => call 45 (x0, x1)
def g46 (call : CallFn E) : Int → Int → Option (Int) := fun x0 x1 => call 46 (x0, x1)
def g47 (call : CallFn E) : Int → Int → Int → Option (Int × Int) := fun x0 x1 x2 => call 47 (x0, x1, x2)
def g48 (call : CallFn E) : Int → Int → Int → Option (Int × Int) := fun x0 x1 x2 => call 48 (x0, x1, x2)
def g52 (call : CallFn E) : (List Int) → Int → Option ((List Int)) := fun x0 x1 => call 52 (x0, x1)
def g53 (call : CallFn E) : Int → Option (Int) := fun x0 => call 53 x0
def g54 (call : CallFn E) : Int → Option (Int) := fun x0 => call 54 x0
noncomputable def q9 (call : CallFn E) (n : Nat) (a0 : (List Int)) (a1 : (List Int)) (a2 : Int) : Option ((List Int)) := runHow E call n s9 (a0, a1, a2) h9
theorem rr9 (call : CallFn E) (n : Nat) (a0 : (List Int)) (a1 : (List Int)) (a2 : Int) : q9 call n a0 a1 a2 = r9 (g23 call) (g24 call) (g25 call) (g26 call) (g27 call)  a0 a1 a2 := by kernel_rfl
theorem gq9 (n : Nat) (a0 : (List Int)) (a1 : (List Int)) (a2 : Int) : g9 (evalF E (n + 1)) a0 a1 a2 = q9 (evalF E n) n a0 a1 a2 := by kernel_rfl
def L10_0 : LH := ⟨[1, 5, 6, 15, 16, 17], ⟨[.dat (.slice (.int .i64)), .dat (.ext 0), .ref 0, .dat (.slice (.int .i64)), .dat (.int .i64), .dat (.int .i64)], [.row (.slice (.int .u64))]⟩, 0⟩
noncomputable def b10_0 : Code := codeAt c10 [1, 1, 1, 0, 1, 0, 0]
noncomputable def lq10_0 (call : CallFn E) (n m : Nat) (y : (List Int) × (List Int) × (List Int) × Int × Int × (List (List Int))) : Option (((List Int) × (List Int) × (List Int) × Int × Int × (List (List Int))) ⊕ ((List (List Int)))) := loopAt (ctxOf E call n s10 Try.f10 hs10) b10_0 [0, 1, 0, 1, 1, 1] L10_0 m y
theorem lp10_0 (call : CallFn E) (n m : Nat) (y : (List Int) × (List Int) × (List Int) × Int × Int × (List (List Int))) : lq10_0 call n (m + 1) y = F10_0 (g9 call) (g28 call) (g29 call) (g30 call)  (lq10_0 call n m) y := by kernel_rfl
noncomputable def q10 (call : CallFn E) (n : Nat) (a0 : (List Int)) (a1 : (List Int)) : Option ((List (List Int))) := runHow E call n s10 (a0, a1) h10
theorem rr10 (call : CallFn E) (n : Nat) (a0 : (List Int)) (a1 : (List Int)) : q10 call n a0 a1 = r10 (g9 call) (g28 call) (g29 call) (g30 call) (lq10_0 call n n) a0 a1 := by kernel_rfl
theorem gq10 (n : Nat) (a0 : (List Int)) (a1 : (List Int)) : g10 (evalF E (n + 1)) a0 a1 = q10 (evalF E n) n a0 a1 := by kernel_rfl
noncomputable def q11 (call : CallFn E) (n : Nat) (_ : Unit) : Option (Bool) := runHow E call n s11 () h11
theorem rr11 (call : CallFn E) (n : Nat) (u : Unit) : q11 call n u = r11 (g9 call) (g10 call) (g12 call) (g13 call)  u := by kernel_rfl
theorem gq11 (n : Nat) (u : Unit) : g11 (evalF E (n + 1)) u = q11 (evalF E n) n u := by kernel_rfl
def L12_0 : LH := ⟨[1, 5, 6, 14, 15, 16], ⟨[.dat (.slice (.int .i64)), .dat (.ext 0), .dat (.slice (.int .u64)), .dat (.slice (.int .i64)), .dat (.int .i64), .dat (.int .i64)], []⟩, 0⟩
noncomputable def b12_0 : Code := codeAt c12 [1, 1, 1, 0, 1, 0, 0]
noncomputable def lq12_0 (call : CallFn E) (n m : Nat) (y : (List Int) × (List Int) × (List Int) × (List Int) × Int × Int) : Option (((List Int) × (List Int) × (List Int) × (List Int) × Int × Int) ⊕ (Int)) := loopAt (ctxOf E call n s12 Try.f12 hs12) b12_0 [0, 1, 0, 1, 1, 1] L12_0 m y
theorem lp12_0 (call : CallFn E) (n m : Nat) (y : (List Int) × (List Int) × (List Int) × (List Int) × Int × Int) : lq12_0 call n (m + 1) y = F12_0 (g9 call) (g28 call) (g29 call) (g30 call) (g31 call)  (lq12_0 call n m) y := by kernel_rfl
noncomputable def q12 (call : CallFn E) (n : Nat) (a0 : (List Int)) (a1 : (List Int)) : Option (Int) := runHow E call n s12 (a0, a1) h12
theorem rr12 (call : CallFn E) (n : Nat) (a0 : (List Int)) (a1 : (List Int)) : q12 call n a0 a1 = r12 (g9 call) (g28 call) (g29 call) (g30 call) (g31 call) (lq12_0 call n n) a0 a1 := by kernel_rfl
theorem gq12 (n : Nat) (a0 : (List Int)) (a1 : (List Int)) : g12 (evalF E (n + 1)) a0 a1 = q12 (evalF E n) n a0 a1 := by kernel_rfl
noncomputable def q13 (call : CallFn E) (n : Nat) (a0 : Int) (a1 : Int) : Option (Int) := runHow E call n s13 (a0, a1) h13
theorem rr13 (call : CallFn E) (n : Nat) (a0 : Int) (a1 : Int) : q13 call n a0 a1 = r13 (g32 call) (g33 call)  a0 a1 := by kernel_rfl
theorem gq13 (n : Nat) (a0 : Int) (a1 : Int) : g13 (evalF E (n + 1)) a0 a1 = q13 (evalF E n) n a0 a1 := by kernel_rfl
def L23_0 : LH := ⟨[0, 1, 5, 11, 12], ⟨[.dat (.slice (.int .u64)), .dat (.int .i64), .ref 0, .dat (.int .i64), .dat (.int .i64)], [.row (.int .u64)]⟩, 0⟩
noncomputable def b23_0 : Code := codeAt c23 [1, 1, 0, 1, 0, 0]
noncomputable def lq23_0 (call : CallFn E) (n m : Nat) (y : (List Int) × Int × Int × Int × (List Int)) : Option (((List Int) × Int × Int × Int × (List Int)) ⊕ ((List Int))) := loopAt (ctxOf E call n s23 Try.f23 hs23) b23_0 [0, 1, 0, 1, 1] L23_0 m y
theorem lp23_0 (call : CallFn E) (n m : Nat) (y : (List Int) × Int × Int × Int × (List Int)) : lq23_0 call n (m + 1) y = F23_0 (g33 call) (g45 call) (g46 call)  (lq23_0 call n m) y := by kernel_rfl
noncomputable def q23 (call : CallFn E) (n : Nat) (a0 : (List Int)) (a1 : Int) : Option ((List Int)) := runHow E call n s23 (a0, a1) h23
theorem rr23 (call : CallFn E) (n : Nat) (a0 : (List Int)) (a1 : Int) : q23 call n a0 a1 = r23 (g33 call) (g45 call) (g46 call) (lq23_0 call n n) a0 a1 := by kernel_rfl
theorem gq23 (n : Nat) (a0 : (List Int)) (a1 : Int) : g23 (evalF E (n + 1)) a0 a1 = q23 (evalF E n) n a0 a1 := by kernel_rfl
def L24_0 : LH := ⟨[0, 1, 5, 14, 15], ⟨[.dat (.slice (.int .u64)), .dat (.slice (.int .u64)), .ref 0, .dat (.int .i64), .dat (.int .i64)], [.row (.int .u64)]⟩, 0⟩
noncomputable def b24_0 : Code := codeAt c24 [1, 1, 0, 1, 0, 0]
noncomputable def lq24_0 (call : CallFn E) (n m : Nat) (y : (List Int) × (List Int) × Int × Int × (List Int)) : Option (((List Int) × (List Int) × Int × Int × (List Int)) ⊕ ((List Int))) := loopAt (ctxOf E call n s24 Try.f24 hs24) b24_0 [0, 1, 0, 1, 1] L24_0 m y
theorem lp24_0 (call : CallFn E) (n m : Nat) (y : (List Int) × (List Int) × Int × Int × (List Int)) : lq24_0 call n (m + 1) y = F24_0 (g45 call)  (lq24_0 call n m) y := by kernel_rfl
noncomputable def q24 (call : CallFn E) (n : Nat) (a0 : (List Int)) (a1 : (List Int)) : Option ((List Int)) := runHow E call n s24 (a0, a1) h24
theorem rr24 (call : CallFn E) (n : Nat) (a0 : (List Int)) (a1 : (List Int)) : q24 call n a0 a1 = r24 (g45 call) (lq24_0 call n n) a0 a1 := by kernel_rfl
theorem gq24 (n : Nat) (a0 : (List Int)) (a1 : (List Int)) : g24 (evalF E (n + 1)) a0 a1 = q24 (evalF E n) n a0 a1 := by kernel_rfl
def L25_0 : LH := ⟨[0, 1, 5, 14, 15], ⟨[.dat (.slice (.int .u64)), .dat (.slice (.int .u64)), .ref 0, .dat (.int .i64), .dat (.int .i64)], [.row (.int .u64)]⟩, 0⟩
noncomputable def b25_0 : Code := codeAt c25 [1, 1, 0, 1, 0, 0]
noncomputable def lq25_0 (call : CallFn E) (n m : Nat) (y : (List Int) × (List Int) × Int × Int × (List Int)) : Option (((List Int) × (List Int) × Int × Int × (List Int)) ⊕ ((List Int))) := loopAt (ctxOf E call n s25 Try.f25 hs25) b25_0 [0, 1, 0, 1, 1] L25_0 m y
theorem lp25_0 (call : CallFn E) (n m : Nat) (y : (List Int) × (List Int) × Int × Int × (List Int)) : lq25_0 call n (m + 1) y = F25_0 (g45 call)  (lq25_0 call n m) y := by kernel_rfl
noncomputable def q25 (call : CallFn E) (n : Nat) (a0 : (List Int)) (a1 : (List Int)) : Option ((List Int)) := runHow E call n s25 (a0, a1) h25
theorem rr25 (call : CallFn E) (n : Nat) (a0 : (List Int)) (a1 : (List Int)) : q25 call n a0 a1 = r25 (g45 call) (lq25_0 call n n) a0 a1 := by kernel_rfl
theorem gq25 (n : Nat) (a0 : (List Int)) (a1 : (List Int)) : g25 (evalF E (n + 1)) a0 a1 = q25 (evalF E n) n a0 a1 := by kernel_rfl
def L26_0 : LH := ⟨[0, 1, 5, 6, 15, 16], ⟨[.dat (.slice (.int .u64)), .dat (.slice (.int .u64)), .ref 0, .dat (.int .u64), .dat (.int .i64), .dat (.int .i64)], [.row (.int .u64)]⟩, 0⟩
noncomputable def b26_0 : Code := codeAt c26 [1, 1, 1, 0, 1, 0, 0]
noncomputable def lq26_0 (call : CallFn E) (n m : Nat) (y : (List Int) × (List Int) × Int × Int × Int × (List Int)) : Option (((List Int) × (List Int) × Int × Int × Int × (List Int)) ⊕ ((List Int))) := loopAt (ctxOf E call n s26 Try.f26 hs26) b26_0 [0, 1, 0, 1, 1, 1] L26_0 m y
theorem lp26_0 (call : CallFn E) (n m : Nat) (y : (List Int) × (List Int) × Int × Int × Int × (List Int)) : lq26_0 call n (m + 1) y = F26_0 (g45 call) (g47 call)  (lq26_0 call n m) y := by kernel_rfl
noncomputable def q26 (call : CallFn E) (n : Nat) (a0 : (List Int)) (a1 : (List Int)) : Option ((List Int)) := runHow E call n s26 (a0, a1) h26
theorem rr26 (call : CallFn E) (n : Nat) (a0 : (List Int)) (a1 : (List Int)) : q26 call n a0 a1 = r26 (g45 call) (g47 call) (lq26_0 call n n) a0 a1 := by kernel_rfl
theorem gq26 (n : Nat) (a0 : (List Int)) (a1 : (List Int)) : g26 (evalF E (n + 1)) a0 a1 = q26 (evalF E n) n a0 a1 := by kernel_rfl
def L27_0 : LH := ⟨[0, 1, 5, 6, 15, 16], ⟨[.dat (.slice (.int .u64)), .dat (.slice (.int .u64)), .ref 0, .dat (.int .u64), .dat (.int .i64), .dat (.int .i64)], [.row (.int .u64)]⟩, 0⟩
noncomputable def b27_0 : Code := codeAt c27 [1, 1, 1, 0, 1, 0, 0]
noncomputable def lq27_0 (call : CallFn E) (n m : Nat) (y : (List Int) × (List Int) × Int × Int × Int × (List Int)) : Option (((List Int) × (List Int) × Int × Int × Int × (List Int)) ⊕ ((List Int))) := loopAt (ctxOf E call n s27 Try.f27 hs27) b27_0 [0, 1, 0, 1, 1, 1] L27_0 m y
theorem lp27_0 (call : CallFn E) (n m : Nat) (y : (List Int) × (List Int) × Int × Int × Int × (List Int)) : lq27_0 call n (m + 1) y = F27_0 (g45 call) (g48 call)  (lq27_0 call n m) y := by kernel_rfl
noncomputable def q27 (call : CallFn E) (n : Nat) (a0 : (List Int)) (a1 : (List Int)) : Option ((List Int)) := runHow E call n s27 (a0, a1) h27
theorem rr27 (call : CallFn E) (n : Nat) (a0 : (List Int)) (a1 : (List Int)) : q27 call n a0 a1 = r27 (g45 call) (g48 call) (lq27_0 call n n) a0 a1 := by kernel_rfl
theorem gq27 (n : Nat) (a0 : (List Int)) (a1 : (List Int)) : g27 (evalF E (n + 1)) a0 a1 = q27 (evalF E n) n a0 a1 := by kernel_rfl
noncomputable def q29 (call : CallFn E) (n : Nat) (a0 : Int) : Option ((List Int)) := runHow E call n s29 a0 h29
theorem rr29 (call : CallFn E) (n : Nat) (a0 : Int) : q29 call n a0 = r29 (g52 call)  a0 := by kernel_rfl
theorem gq29 (n : Nat) (a0 : Int) : g29 (evalF E (n + 1)) a0 = q29 (evalF E n) n a0 := by kernel_rfl
def L31_0 : LH := ⟨[5, 10, 11, 12], ⟨[.dat (.int .i64), .dat (.slice (.int .u64)), .dat (.int .i64), .dat (.int .i64)], []⟩, 0⟩
noncomputable def b31_0 : Code := codeAt c31 [1, 1, 0, 1, 0, 0]
noncomputable def lq31_0 (call : CallFn E) (n m : Nat) (y : Int × (List Int) × Int × Int) : Option ((Int × (List Int) × Int × Int) ⊕ (Int)) := loopAt (ctxOf E call n s31 Try.f31 hs31) b31_0 [0, 1, 0, 1, 1] L31_0 m y
theorem lp31_0 (call : CallFn E) (n m : Nat) (y : Int × (List Int) × Int × Int) : lq31_0 call n (m + 1) y = F31_0 (g23 call) (g53 call)  (lq31_0 call n m) y := by kernel_rfl
noncomputable def q31 (call : CallFn E) (n : Nat) (a0 : (List Int)) (a1 : Int) : Option (Int) := runHow E call n s31 (a0, a1) h31
theorem rr31 (call : CallFn E) (n : Nat) (a0 : (List Int)) (a1 : Int) : q31 call n a0 a1 = r31 (g23 call) (g53 call) (lq31_0 call n n) a0 a1 := by kernel_rfl
theorem gq31 (n : Nat) (a0 : (List Int)) (a1 : Int) : g31 (evalF E (n + 1)) a0 a1 = q31 (evalF E n) n a0 a1 := by kernel_rfl
noncomputable def q32 (call : CallFn E) (n : Nat) (a0 : Int) : Option (Bool) := runHow E call n s32 a0 h32
theorem rr32 (call : CallFn E) (n : Nat) (a0 : Int) : q32 call n a0 = r32   a0 := by kernel_rfl
theorem gq32 (n : Nat) (a0 : Int) : g32 (evalF E (n + 1)) a0 = q32 (evalF E n) n a0 := by kernel_rfl
noncomputable def q33 (call : CallFn E) (n : Nat) (a0 : Int) : Option (Int) := runHow E call n s33 a0 h33
theorem rr33 (call : CallFn E) (n : Nat) (a0 : Int) : q33 call n a0 = r33 (g54 call)  a0 := by kernel_rfl
theorem gq33 (n : Nat) (a0 : Int) : g33 (evalF E (n + 1)) a0 = q33 (evalF E n) n a0 := by kernel_rfl
noncomputable def q45 (call : CallFn E) (n : Nat) (a0 : (List Int)) (a1 : Int) : Option (Int) := runHow E call n s45 (a0, a1) h45
theorem rr45 (call : CallFn E) (n : Nat) (a0 : (List Int)) (a1 : Int) : q45 call n a0 a1 = r45   a0 a1 := by kernel_rfl
theorem gq45 (n : Nat) (a0 : (List Int)) (a1 : Int) : g45 (evalF E (n + 1)) a0 a1 = q45 (evalF E n) n a0 a1 := by kernel_rfl
noncomputable def q46 (call : CallFn E) (n : Nat) (a0 : Int) (a1 : Int) : Option (Int) := runHow E call n s46 (a0, a1) h46
theorem rr46 (call : CallFn E) (n : Nat) (a0 : Int) (a1 : Int) : q46 call n a0 a1 = r46 (g54 call)  a0 a1 := by kernel_rfl
theorem gq46 (n : Nat) (a0 : Int) (a1 : Int) : g46 (evalF E (n + 1)) a0 a1 = q46 (evalF E n) n a0 a1 := by kernel_rfl
def L52_0 : LH := ⟨[0, 1, 5, 11, 12], ⟨[.dat (.slice (.int .u64)), .dat (.int .i64), .ref 0, .dat (.int .i64), .dat (.int .i64)], [.row (.int .u64)]⟩, 0⟩
noncomputable def b52_0 : Code := codeAt c52 [1, 1, 0, 1, 0, 0]
noncomputable def lq52_0 (call : CallFn E) (n m : Nat) (y : (List Int) × Int × Int × Int × (List Int)) : Option (((List Int) × Int × Int × Int × (List Int)) ⊕ ((List Int))) := loopAt (ctxOf E call n s52 Try.f52 hs52) b52_0 [0, 1, 0, 1, 1] L52_0 m y
theorem lp52_0 (call : CallFn E) (n m : Nat) (y : (List Int) × Int × Int × Int × (List Int)) : lq52_0 call n (m + 1) y = F52_0 (g33 call) (g45 call) (g46 call)  (lq52_0 call n m) y := by kernel_rfl
noncomputable def q52 (call : CallFn E) (n : Nat) (a0 : (List Int)) (a1 : Int) : Option ((List Int)) := runHow E call n s52 (a0, a1) h52
theorem rr52 (call : CallFn E) (n : Nat) (a0 : (List Int)) (a1 : Int) : q52 call n a0 a1 = r52 (g33 call) (g45 call) (g46 call) (lq52_0 call n n) a0 a1 := by kernel_rfl
theorem gq52 (n : Nat) (a0 : (List Int)) (a1 : Int) : g52 (evalF E (n + 1)) a0 a1 = q52 (evalF E n) n a0 a1 := by kernel_rfl
noncomputable def q53 (call : CallFn E) (n : Nat) (a0 : Int) : Option (Int) := runHow E call n s53 a0 h53
theorem rr53 (call : CallFn E) (n : Nat) (a0 : Int) : q53 call n a0 = r53   a0 := by kernel_rfl
theorem gq53 (n : Nat) (a0 : Int) : g53 (evalF E (n + 1)) a0 = q53 (evalF E n) n a0 := by kernel_rfl
noncomputable def q54 (call : CallFn E) (n : Nat) (a0 : Int) : Option (Int) := runHow E call n s54 a0 h54
theorem rr54 (call : CallFn E) (n : Nat) (a0 : Int) : q54 call n a0 = r54   a0 := by kernel_rfl
theorem gq54 (n : Nat) (a0 : Int) : g54 (evalF E (n + 1)) a0 = q54 (evalF E n) n a0 := by kernel_rfl
def R54 : Nat → Int → Option (Int)
  | 0, _ => none
  | n + 1, a0 => r54   a0
theorem e54 : ∀ (n : Nat), g54 (evalF E n) = R54 n
  | 0 => by funext a0; rfl
  | n + 1 => by
    funext a0
    rw [gq54, rr54]
    rfl
def R33 : Nat → Int → Option (Int)
  | 0, _ => none
  | n + 1, a0 => r33 (R54 n)  a0
theorem e33 : ∀ (n : Nat), g33 (evalF E n) = R33 n
  | 0 => by funext a0; rfl
  | n + 1 => by
    funext a0
    rw [gq33, rr33]
    simp only [e54 n]
    rfl
def R45 : Nat → (List Int) → Int → Option (Int)
  | 0, _, _ => none
  | n + 1, a0, a1 => r45   a0 a1
theorem e45 : ∀ (n : Nat), g45 (evalF E n) = R45 n
  | 0 => by funext a0 a1; rfl
  | n + 1 => by
    funext a0 a1
    rw [gq45, rr45]
    rfl
def R46 : Nat → Int → Int → Option (Int)
  | 0, _, _ => none
  | n + 1, a0, a1 => r46 (R54 n)  a0 a1
theorem e46 : ∀ (n : Nat), g46 (evalF E n) = R46 n
  | 0 => by funext a0 a1; rfl
  | n + 1 => by
    funext a0 a1
    rw [gq46, rr46]
    simp only [e54 n]
    rfl
def R23 : Nat → (List Int) → Int → Option ((List Int))
  | 0, _, _ => none
  | n + 1, a0, a1 => r23 (R33 n) (R45 n) (R46 n) (iter (F23_0 (R33 n) (R45 n) (R46 n) ) n) a0 a1
theorem e23 : ∀ (n : Nat), g23 (evalF E n) = R23 n
  | 0 => by funext a0 a1; rfl
  | n + 1 => by
    have l0 : lq23_0 (evalF E n) n n = (iter (F23_0 (R33 n) (R45 n) (R46 n) ) n) := iter_of (g := lq23_0 (evalF E n) n) rfl (fun m y => by rw [lp23_0]; simp only [e33 n, e45 n, e46 n]) n
    funext a0 a1
    rw [gq23, rr23]
    simp only [e33 n, e45 n, e46 n, l0]
    rfl
def R24 : Nat → (List Int) → (List Int) → Option ((List Int))
  | 0, _, _ => none
  | n + 1, a0, a1 => r24 (R45 n) (iter (F24_0 (R45 n) ) n) a0 a1
theorem e24 : ∀ (n : Nat), g24 (evalF E n) = R24 n
  | 0 => by funext a0 a1; rfl
  | n + 1 => by
    have l0 : lq24_0 (evalF E n) n n = (iter (F24_0 (R45 n) ) n) := iter_of (g := lq24_0 (evalF E n) n) rfl (fun m y => by rw [lp24_0]; simp only [e45 n]) n
    funext a0 a1
    rw [gq24, rr24]
    simp only [e45 n, l0]
    rfl
def R25 : Nat → (List Int) → (List Int) → Option ((List Int))
  | 0, _, _ => none
  | n + 1, a0, a1 => r25 (R45 n) (iter (F25_0 (R45 n) ) n) a0 a1
theorem e25 : ∀ (n : Nat), g25 (evalF E n) = R25 n
  | 0 => by funext a0 a1; rfl
  | n + 1 => by
    have l0 : lq25_0 (evalF E n) n n = (iter (F25_0 (R45 n) ) n) := iter_of (g := lq25_0 (evalF E n) n) rfl (fun m y => by rw [lp25_0]; simp only [e45 n]) n
    funext a0 a1
    rw [gq25, rr25]
    simp only [e45 n, l0]
    rfl
def R47 : Nat → Int → Int → Int → Option (Int × Int)
  | 0, _, _, _ => none
  | _ + 1, a0, a1, a2 => add64 (a0, a1, a2)
theorem e47 (n : Nat) : g47 (evalF E n) = R47 n := by cases n <;> rfl
def R26 : Nat → (List Int) → (List Int) → Option ((List Int))
  | 0, _, _ => none
  | n + 1, a0, a1 => r26 (R45 n) (R47 n) (iter (F26_0 (R45 n) (R47 n) ) n) a0 a1
theorem e26 : ∀ (n : Nat), g26 (evalF E n) = R26 n
  | 0 => by funext a0 a1; rfl
  | n + 1 => by
    have l0 : lq26_0 (evalF E n) n n = (iter (F26_0 (R45 n) (R47 n) ) n) := iter_of (g := lq26_0 (evalF E n) n) rfl (fun m y => by rw [lp26_0]; simp only [e45 n, e47 n]) n
    funext a0 a1
    rw [gq26, rr26]
    simp only [e45 n, e47 n, l0]
    rfl
def R48 : Nat → Int → Int → Int → Option (Int × Int)
  | 0, _, _, _ => none
  | _ + 1, a0, a1, a2 => sub64 (a0, a1, a2)
theorem e48 (n : Nat) : g48 (evalF E n) = R48 n := by cases n <;> rfl
def R27 : Nat → (List Int) → (List Int) → Option ((List Int))
  | 0, _, _ => none
  | n + 1, a0, a1 => r27 (R45 n) (R48 n) (iter (F27_0 (R45 n) (R48 n) ) n) a0 a1
theorem e27 : ∀ (n : Nat), g27 (evalF E n) = R27 n
  | 0 => by funext a0 a1; rfl
  | n + 1 => by
    have l0 : lq27_0 (evalF E n) n n = (iter (F27_0 (R45 n) (R48 n) ) n) := iter_of (g := lq27_0 (evalF E n) n) rfl (fun m y => by rw [lp27_0]; simp only [e45 n, e48 n]) n
    funext a0 a1
    rw [gq27, rr27]
    simp only [e45 n, e48 n, l0]
    rfl
def R9 : Nat → (List Int) → (List Int) → Int → Option ((List Int))
  | 0, _, _, _ => none
  | n + 1, a0, a1, a2 => r9 (R23 n) (R24 n) (R25 n) (R26 n) (R27 n)  a0 a1 a2
theorem e9 : ∀ (n : Nat), g9 (evalF E n) = R9 n
  | 0 => by funext a0 a1 a2; rfl
  | n + 1 => by
    funext a0 a1 a2
    rw [gq9, rr9]
    simp only [e23 n, e24 n, e25 n, e26 n, e27 n]
    rfl
def R28 : Nat → (List Int) → Option ((List Int))
  | 0, _ => none
  | _ + 1, a0 => maskNew a0
theorem e28 (n : Nat) : g28 (evalF E n) = R28 n := by cases n <;> rfl
def R52 : Nat → (List Int) → Int → Option ((List Int))
  | 0, _, _ => none
  | n + 1, a0, a1 => r52 (R33 n) (R45 n) (R46 n) (iter (F52_0 (R33 n) (R45 n) (R46 n) ) n) a0 a1
theorem e52 : ∀ (n : Nat), g52 (evalF E n) = R52 n
  | 0 => by funext a0 a1; rfl
  | n + 1 => by
    have l0 : lq52_0 (evalF E n) n n = (iter (F52_0 (R33 n) (R45 n) (R46 n) ) n) := iter_of (g := lq52_0 (evalF E n) n) rfl (fun m y => by rw [lp52_0]; simp only [e33 n, e45 n, e46 n]) n
    funext a0 a1
    rw [gq52, rr52]
    simp only [e33 n, e45 n, e46 n, l0]
    rfl
def R29 : Nat → Int → Option ((List Int))
  | 0, _ => none
  | n + 1, a0 => r29 (R52 n)  a0
theorem e29 : ∀ (n : Nat), g29 (evalF E n) = R29 n
  | 0 => by funext a0; rfl
  | n + 1 => by
    funext a0
    rw [gq29, rr29]
    simp only [e52 n]
    rfl
def R30 : Nat → (List Int) → Int → Option ((List Int))
  | 0, _, _ => none
  | _ + 1, a0, a1 => maskOf (a0, a1)
theorem e30 (n : Nat) : g30 (evalF E n) = R30 n := by cases n <;> rfl
def R10 : Nat → (List Int) → (List Int) → Option ((List (List Int)))
  | 0, _, _ => none
  | n + 1, a0, a1 => r10 (R9 n) (R28 n) (R29 n) (R30 n) (iter (F10_0 (R9 n) (R28 n) (R29 n) (R30 n) ) n) a0 a1
theorem e10 : ∀ (n : Nat), g10 (evalF E n) = R10 n
  | 0 => by funext a0 a1; rfl
  | n + 1 => by
    have l0 : lq10_0 (evalF E n) n n = (iter (F10_0 (R9 n) (R28 n) (R29 n) (R30 n) ) n) := iter_of (g := lq10_0 (evalF E n) n) rfl (fun m y => by rw [lp10_0]; simp only [e9 n, e28 n, e29 n, e30 n]) n
    funext a0 a1
    rw [gq10, rr10]
    simp only [e9 n, e28 n, e29 n, e30 n, l0]
    rfl
def R53 : Nat → Int → Option (Int)
  | 0, _ => none
  | n + 1, a0 => r53   a0
theorem e53 : ∀ (n : Nat), g53 (evalF E n) = R53 n
  | 0 => by funext a0; rfl
  | n + 1 => by
    funext a0
    rw [gq53, rr53]
    rfl
def R31 : Nat → (List Int) → Int → Option (Int)
  | 0, _, _ => none
  | n + 1, a0, a1 => r31 (R23 n) (R53 n) (iter (F31_0 (R23 n) (R53 n) ) n) a0 a1
theorem e31 : ∀ (n : Nat), g31 (evalF E n) = R31 n
  | 0 => by funext a0 a1; rfl
  | n + 1 => by
    have l0 : lq31_0 (evalF E n) n n = (iter (F31_0 (R23 n) (R53 n) ) n) := iter_of (g := lq31_0 (evalF E n) n) rfl (fun m y => by rw [lp31_0]; simp only [e23 n, e53 n]) n
    funext a0 a1
    rw [gq31, rr31]
    simp only [e23 n, e53 n, l0]
    rfl
def R12 : Nat → (List Int) → (List Int) → Option (Int)
  | 0, _, _ => none
  | n + 1, a0, a1 => r12 (R9 n) (R28 n) (R29 n) (R30 n) (R31 n) (iter (F12_0 (R9 n) (R28 n) (R29 n) (R30 n) (R31 n) ) n) a0 a1
theorem e12 : ∀ (n : Nat), g12 (evalF E n) = R12 n
  | 0 => by funext a0 a1; rfl
  | n + 1 => by
    have l0 : lq12_0 (evalF E n) n n = (iter (F12_0 (R9 n) (R28 n) (R29 n) (R30 n) (R31 n) ) n) := iter_of (g := lq12_0 (evalF E n) n) rfl (fun m y => by rw [lp12_0]; simp only [e9 n, e28 n, e29 n, e30 n, e31 n]) n
    funext a0 a1
    rw [gq12, rr12]
    simp only [e9 n, e28 n, e29 n, e30 n, e31 n, l0]
    rfl
def R32 : Nat → Int → Option (Bool)
  | 0, _ => none
  | n + 1, a0 => r32   a0
theorem e32 : ∀ (n : Nat), g32 (evalF E n) = R32 n
  | 0 => by funext a0; rfl
  | n + 1 => by
    funext a0
    rw [gq32, rr32]
    rfl
def R13 : Nat → Int → Int → Option (Int)
  | 0, _, _ => none
  | n + 1, a0, a1 => r13 (R32 n) (R33 n)  a0 a1
theorem e13 : ∀ (n : Nat), g13 (evalF E n) = R13 n
  | 0 => by funext a0 a1; rfl
  | n + 1 => by
    funext a0 a1
    rw [gq13, rr13]
    simp only [e32 n, e33 n]
    rfl
def R11 : Nat → Unit → Option (Bool)
  | 0, _ => none
  | n + 1, u => r11 (R9 n) (R10 n) (R12 n) (R13 n)  u
theorem e11 : ∀ (n : Nat), g11 (evalF E n) = R11 n
  | 0 => by funext u; rfl
  | n + 1 => by
    funext u
    rw [gq11, rr11]
    simp only [e9 n, e10 n, e12 n, e13 n]
    rfl
noncomputable def RC (n : Nat) : CallFn E := fun f =>
  if h : f = 54 then @Eq.rec Nat 54 (fun f _ => (E.fn f).sig.ins.den → Option (E.fn f).sig.outs.den) (fun x => R54 n x) f h.symm else
  if h : f = 33 then @Eq.rec Nat 33 (fun f _ => (E.fn f).sig.ins.den → Option (E.fn f).sig.outs.den) (fun x => R33 n x) f h.symm else
  if h : f = 45 then @Eq.rec Nat 45 (fun f _ => (E.fn f).sig.ins.den → Option (E.fn f).sig.outs.den) (fun x => R45 n x.1 x.2) f h.symm else
  if h : f = 46 then @Eq.rec Nat 46 (fun f _ => (E.fn f).sig.ins.den → Option (E.fn f).sig.outs.den) (fun x => R46 n x.1 x.2) f h.symm else
  if h : f = 23 then @Eq.rec Nat 23 (fun f _ => (E.fn f).sig.ins.den → Option (E.fn f).sig.outs.den) (fun x => R23 n x.1 x.2) f h.symm else
  if h : f = 24 then @Eq.rec Nat 24 (fun f _ => (E.fn f).sig.ins.den → Option (E.fn f).sig.outs.den) (fun x => R24 n x.1 x.2) f h.symm else
  if h : f = 25 then @Eq.rec Nat 25 (fun f _ => (E.fn f).sig.ins.den → Option (E.fn f).sig.outs.den) (fun x => R25 n x.1 x.2) f h.symm else
  if h : f = 47 then @Eq.rec Nat 47 (fun f _ => (E.fn f).sig.ins.den → Option (E.fn f).sig.outs.den) (fun x => R47 n x.1 x.2.1 x.2.2) f h.symm else
  if h : f = 26 then @Eq.rec Nat 26 (fun f _ => (E.fn f).sig.ins.den → Option (E.fn f).sig.outs.den) (fun x => R26 n x.1 x.2) f h.symm else
  if h : f = 48 then @Eq.rec Nat 48 (fun f _ => (E.fn f).sig.ins.den → Option (E.fn f).sig.outs.den) (fun x => R48 n x.1 x.2.1 x.2.2) f h.symm else
  if h : f = 27 then @Eq.rec Nat 27 (fun f _ => (E.fn f).sig.ins.den → Option (E.fn f).sig.outs.den) (fun x => R27 n x.1 x.2) f h.symm else
  if h : f = 9 then @Eq.rec Nat 9 (fun f _ => (E.fn f).sig.ins.den → Option (E.fn f).sig.outs.den) (fun x => R9 n x.1 x.2.1 x.2.2) f h.symm else
  if h : f = 28 then @Eq.rec Nat 28 (fun f _ => (E.fn f).sig.ins.den → Option (E.fn f).sig.outs.den) (fun x => R28 n x) f h.symm else
  if h : f = 52 then @Eq.rec Nat 52 (fun f _ => (E.fn f).sig.ins.den → Option (E.fn f).sig.outs.den) (fun x => R52 n x.1 x.2) f h.symm else
  if h : f = 29 then @Eq.rec Nat 29 (fun f _ => (E.fn f).sig.ins.den → Option (E.fn f).sig.outs.den) (fun x => R29 n x) f h.symm else
  if h : f = 30 then @Eq.rec Nat 30 (fun f _ => (E.fn f).sig.ins.den → Option (E.fn f).sig.outs.den) (fun x => R30 n x.1 x.2) f h.symm else
  if h : f = 10 then @Eq.rec Nat 10 (fun f _ => (E.fn f).sig.ins.den → Option (E.fn f).sig.outs.den) (fun x => R10 n x.1 x.2) f h.symm else
  if h : f = 53 then @Eq.rec Nat 53 (fun f _ => (E.fn f).sig.ins.den → Option (E.fn f).sig.outs.den) (fun x => R53 n x) f h.symm else
  if h : f = 31 then @Eq.rec Nat 31 (fun f _ => (E.fn f).sig.ins.den → Option (E.fn f).sig.outs.den) (fun x => R31 n x.1 x.2) f h.symm else
  if h : f = 12 then @Eq.rec Nat 12 (fun f _ => (E.fn f).sig.ins.den → Option (E.fn f).sig.outs.den) (fun x => R12 n x.1 x.2) f h.symm else
  if h : f = 32 then @Eq.rec Nat 32 (fun f _ => (E.fn f).sig.ins.den → Option (E.fn f).sig.outs.den) (fun x => R32 n x) f h.symm else
  if h : f = 13 then @Eq.rec Nat 13 (fun f _ => (E.fn f).sig.ins.den → Option (E.fn f).sig.outs.den) (fun x => R13 n x.1 x.2) f h.symm else
  if h : f = 11 then @Eq.rec Nat 11 (fun f _ => (E.fn f).sig.ins.den → Option (E.fn f).sig.outs.den) (fun x => R11 n x) f h.symm else
  evalF E n f
theorem RC_eq (n : Nat) : RC n = evalF E n := by
  funext f
  unfold RC
  by_cases h : f = 54
  · subst h; funext x; rw [dif_pos rfl]; exact ((congrFun (e54 n) x)).symm
  rw [dif_neg h]; clear h
  by_cases h : f = 33
  · subst h; funext x; rw [dif_pos rfl]; exact ((congrFun (e33 n) x)).symm
  rw [dif_neg h]; clear h
  by_cases h : f = 45
  · subst h; funext x; rw [dif_pos rfl]; exact ((congrFun (congrFun (e45 n) x.1) x.2)).symm
  rw [dif_neg h]; clear h
  by_cases h : f = 46
  · subst h; funext x; rw [dif_pos rfl]; exact ((congrFun (congrFun (e46 n) x.1) x.2)).symm
  rw [dif_neg h]; clear h
  by_cases h : f = 23
  · subst h; funext x; rw [dif_pos rfl]; exact ((congrFun (congrFun (e23 n) x.1) x.2)).symm
  rw [dif_neg h]; clear h
  by_cases h : f = 24
  · subst h; funext x; rw [dif_pos rfl]; exact ((congrFun (congrFun (e24 n) x.1) x.2)).symm
  rw [dif_neg h]; clear h
  by_cases h : f = 25
  · subst h; funext x; rw [dif_pos rfl]; exact ((congrFun (congrFun (e25 n) x.1) x.2)).symm
  rw [dif_neg h]; clear h
  by_cases h : f = 47
  · subst h; funext x; rw [dif_pos rfl]; exact ((congrFun (congrFun (congrFun (e47 n) x.1) x.2.1) x.2.2)).symm
  rw [dif_neg h]; clear h
  by_cases h : f = 26
  · subst h; funext x; rw [dif_pos rfl]; exact ((congrFun (congrFun (e26 n) x.1) x.2)).symm
  rw [dif_neg h]; clear h
  by_cases h : f = 48
  · subst h; funext x; rw [dif_pos rfl]; exact ((congrFun (congrFun (congrFun (e48 n) x.1) x.2.1) x.2.2)).symm
  rw [dif_neg h]; clear h
  by_cases h : f = 27
  · subst h; funext x; rw [dif_pos rfl]; exact ((congrFun (congrFun (e27 n) x.1) x.2)).symm
  rw [dif_neg h]; clear h
  by_cases h : f = 9
  · subst h; funext x; rw [dif_pos rfl]; exact ((congrFun (congrFun (congrFun (e9 n) x.1) x.2.1) x.2.2)).symm
  rw [dif_neg h]; clear h
  by_cases h : f = 28
  · subst h; funext x; rw [dif_pos rfl]; exact ((congrFun (e28 n) x)).symm
  rw [dif_neg h]; clear h
  by_cases h : f = 52
  · subst h; funext x; rw [dif_pos rfl]; exact ((congrFun (congrFun (e52 n) x.1) x.2)).symm
  rw [dif_neg h]; clear h
  by_cases h : f = 29
  · subst h; funext x; rw [dif_pos rfl]; exact ((congrFun (e29 n) x)).symm
  rw [dif_neg h]; clear h
  by_cases h : f = 30
  · subst h; funext x; rw [dif_pos rfl]; exact ((congrFun (congrFun (e30 n) x.1) x.2)).symm
  rw [dif_neg h]; clear h
  by_cases h : f = 10
  · subst h; funext x; rw [dif_pos rfl]; exact ((congrFun (congrFun (e10 n) x.1) x.2)).symm
  rw [dif_neg h]; clear h
  by_cases h : f = 53
  · subst h; funext x; rw [dif_pos rfl]; exact ((congrFun (e53 n) x)).symm
  rw [dif_neg h]; clear h
  by_cases h : f = 31
  · subst h; funext x; rw [dif_pos rfl]; exact ((congrFun (congrFun (e31 n) x.1) x.2)).symm
  rw [dif_neg h]; clear h
  by_cases h : f = 12
  · subst h; funext x; rw [dif_pos rfl]; exact ((congrFun (congrFun (e12 n) x.1) x.2)).symm
  rw [dif_neg h]; clear h
  by_cases h : f = 32
  · subst h; funext x; rw [dif_pos rfl]; exact ((congrFun (e32 n) x)).symm
  rw [dif_neg h]; clear h
  by_cases h : f = 13
  · subst h; funext x; rw [dif_pos rfl]; exact ((congrFun (congrFun (e13 n) x.1) x.2)).symm
  rw [dif_neg h]; clear h
  by_cases h : f = 11
  · subst h; funext x; rw [dif_pos rfl]; exact ((congrFun (e11 n) x)).symm
  rw [dif_neg h]
theorem law_k : @Eq (Option Bool) (runK E (strictC E (RC 300)) 300 s3 () h3) (some true) := by kernel_rfl
theorem law_h (x : s3.ins.den) : runHow E (evalF E 300) 300 s3 x h3 = runK E (strictC E (RC 300)) 300 s3 x h3 := by rw [strictC_eq, RC_eq, runK_eq]
theorem law_run (x : s3.ins.den) : runHow E (evalF E 300) 300 s3 x h3 = some true := (law_h x).trans law_k
theorem okAll : EntriesOK Try.prog MaskX.XM 0 E.fns := ⟨trivial,
  trivial,
  trivial,
  ok3 MaskX.XM,
  trivial,
  trivial,
  trivial,
  trivial,
  trivial,
  ok9 MaskX.XM,
  ok10 MaskX.XM,
  ok11 MaskX.XM,
  ok12 MaskX.XM,
  ok13 MaskX.XM,
  trivial,
  trivial,
  trivial,
  trivial,
  trivial,
  trivial,
  trivial,
  trivial,
  trivial,
  ok23 MaskX.XM,
  ok24 MaskX.XM,
  ok25 MaskX.XM,
  ok26 MaskX.XM,
  ok27 MaskX.XM,
  fun _ _ _ h => MaskX.New_spec MaskX.sortC MaskX.sortN MaskX.compC MaskX.compN h,
  ok29 MaskX.XM,
  fun _ _ _ h => MaskX.Of_spec h,
  ok31 MaskX.XM,
  ok32 MaskX.XM,
  ok33 MaskX.XM,
  trivial,
  trivial,
  trivial,
  trivial,
  trivial,
  trivial,
  trivial,
  trivial,
  trivial,
  trivial,
  trivial,
  ok45 MaskX.XM,
  ok46 MaskX.XM,
  fun _ _ _ h => Add64_spec MaskX.XM h,
  fun _ _ _ h => Sub64_spec MaskX.XM h,
  trivial,
  trivial,
  trivial,
  ok52 MaskX.XM,
  ok53 MaskX.XM,
  ok54 MaskX.XM, trivial⟩
theorem mixed : Try.prog.follows .mixedOrders = true := by kernel_rfl
theorem calls (n : Nat) : CallOK Try.prog MaskX.XM E (evalF E n) := evalF_sound MaskX.XM_ok tys mixed (entries_fn okAll) n
end Go.Proofs.Ytnnihdhjphmohaa.EHyyroKnown
