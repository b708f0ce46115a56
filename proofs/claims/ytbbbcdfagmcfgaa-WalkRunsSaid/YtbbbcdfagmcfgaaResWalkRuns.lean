import Derived.Test.YtbbbcdfagmcfgaaProg
import Derived.Test.YtbbbcdfagmcfgaaAeB
import Derived.Test.YtbbbcdfagmcfgaaAEB
import Derived.Test.YtbbbcdfagmcfgaaGridX
import Derived.Test.YtbbbcdfagmcfgaaGridY
import Derived.Test.YtbbbcdfagmcfgaaMaskX
namespace Go.Proofs.Ytbbbcdfagmcfgaa.EWalkRuns
open Go Go.Proofs.Ytbbbcdfagmcfgaa.AE
set_option maxRecDepth 100000
set_option linter.unusedVariables false
-- tatting/tattinglaw22.WalkRuns
noncomputable def c4 : Code := match Try.f4.body with | some c => c | none => .skip
def s4 : Sig := ⟨⟨[.dat (.int .i64), .dat (.slice (.int .i64)), .dat (.slice (.int .i64)), .dat (.int .i64)], []⟩, ⟨[.dat .bool], []⟩⟩
def hs4 : List (List Nat × LH) := []
noncomputable def h4 : How s4 := .code Try.f4 c4 hs4
-- tatting/walk.Run
noncomputable def c8 : Code := match Try.f8.body with | some c => c | none => .skip
def s8 : Sig := ⟨⟨[.dat (.int .i64), .dat (.slice (.int .i64)), .dat (.slice (.int .i64)), .dat (.int .i64)], []⟩, ⟨[.dat (.slice (.pair (.int .i64) (.one (.int .i64)))), .dat (.int .i64), .dat (.int .i64)], []⟩⟩
def hs8 : List (List Nat × LH) := [([0, 1, 0, 1, 1, 0, 0, 1, 0, 0, 1, 0, 1, 1, 1, 1, 1, 1, 1, 1, 1], ⟨[0, 1, 2, 3, 11, 13, 16, 17, 18, 19, 20, 21, 22], ⟨[.dat (.int .i64), .dat (.slice (.int .i64)), .dat (.slice (.int .i64)), .dat (.int .i64), .dat (.ext 0), .ref 0, .ref 1, .dat (.int .i64), .dat (.int .i64), .dat (.int .i64), .dat (.int .i64), .ref 2, .dat (.int .i64)], [.row (.slice (.int .u64)), .row (.pair (.int .i64) (.one (.int .i64))), .row (.slice (.int .u64))]⟩, 4⟩), ([0, 1, 0, 1, 1, 1, 1, 1, 1], ⟨[0, 1, 2, 3, 11, 12, 13, 44, 45, 46], ⟨[.dat (.int .i64), .dat (.slice (.int .i64)), .dat (.slice (.int .i64)), .dat (.int .i64), .dat (.ext 0), .dat (.slice (.int .u64)), .ref 0, .dat (.slice (.int .i64)), .dat (.int .i64), .dat (.int .i64)], [.row (.slice (.int .u64))]⟩, 0⟩), ([0, 1, 0, 1, 1, 1, 1, 1, 1, 1, 1, 1], ⟨[0, 1, 2, 3, 11, 13, 16, 17, 18], ⟨[.dat (.int .i64), .dat (.slice (.int .i64)), .dat (.slice (.int .i64)), .dat (.int .i64), .dat (.ext 0), .ref 0, .ref 1, .dat (.int .i64), .dat (.int .i64)], [.row (.slice (.int .u64)), .row (.pair (.int .i64) (.one (.int .i64)))]⟩, 2⟩), ([0, 1, 1, 1, 1, 0, 0, 1, 0, 0, 1, 0, 1, 1, 1, 1, 1, 1, 1, 1, 1], ⟨[0, 1, 2, 3, 11, 13, 16, 17, 18, 19, 21, 23], ⟨[.dat (.int .i64), .dat (.slice (.int .i64)), .dat (.slice (.int .i64)), .dat (.int .i64), .dat (.ext 0), .ref 0, .ref 1, .dat (.int .i64), .dat (.int .i64), .dat (.int .i64), .ref 2, .dat (.int .i64)], [.row (.slice (.int .u64)), .row (.pair (.int .i64) (.one (.int .i64))), .row (.slice (.int .u64))]⟩, 6⟩)]
noncomputable def h8 : How s8 := .code Try.f8 c8 hs8
-- tatting/tattinglaw22.awake
noncomputable def c9 : Code := match Try.f9.body with | some c => c | none => .skip
def s9 : Sig := ⟨⟨[], []⟩, ⟨[.dat .bool], []⟩⟩
def hs9 : List (List Nat × LH) := []
noncomputable def h9 : How s9 := .code Try.f9 c9 hs9
-- tatting/walk.Kept
noncomputable def c10 : Code := match Try.f10.body with | some c => c | none => .skip
def s10 : Sig := ⟨⟨[.dat (.int .i64), .dat (.int .i64)], []⟩, ⟨[.dat (.slice (.int .i64))], []⟩⟩
def hs10 : List (List Nat × LH) := [([0, 1, 0, 1, 1, 1], ⟨[0, 1, 5, 6], ⟨[.dat (.int .i64), .dat (.int .i64), .ref 0, .dat (.int .i64)], [.row (.int .i64)]⟩, 0⟩)]
noncomputable def h10 : How s10 := .code Try.f10 c10 hs10
-- tatting/tattingref1.SameInts
noncomputable def c11 : Code := match Try.f11.body with | some c => c | none => .skip
def s11 : Sig := ⟨⟨[.dat (.slice (.int .i64)), .dat (.slice (.int .i64))], []⟩, ⟨[.dat .bool], []⟩⟩
def hs11 : List (List Nat × LH) := [([0, 1, 0, 1, 1], ⟨[0, 1, 5], ⟨[.dat (.slice (.int .i64)), .dat (.slice (.int .i64)), .dat (.int .i64)], []⟩, 0⟩)]
noncomputable def h11 : How s11 := .code Try.f11 c11 hs11
-- tatting/walk.Room
noncomputable def c12 : Code := match Try.f12.body with | some c => c | none => .skip
def s12 : Sig := ⟨⟨[.dat (.int .i64), .dat (.int .i64), .dat (.int .i64)], []⟩, ⟨[.dat (.int .i64)], []⟩⟩
def hs12 : List (List Nat × LH) := []
noncomputable def h12 : How s12 := .code Try.f12 c12 hs12
-- tatting/walk.Root
noncomputable def c13 : Code := match Try.f13.body with | some c => c | none => .skip
def s13 : Sig := ⟨⟨[.dat (.int .i64)], []⟩, ⟨[.dat (.int .i64)], []⟩⟩
def hs13 : List (List Nat × LH) := [([0, 0, 1, 1, 1], ⟨[0, 3], ⟨[.dat (.int .i64), .dat (.int .i64)], []⟩, 0⟩)]
noncomputable def h13 : How s13 := .code Try.f13 c13 hs13
-- tatting/tattingref1.Few
noncomputable def c14 : Code := match Try.f14.body with | some c => c | none => .skip
def s14 : Sig := ⟨⟨[.dat (.slice (.int .i64)), .dat (.int .i64)], []⟩, ⟨[.dat (.slice (.int .i64))], []⟩⟩
def hs14 : List (List Nat × LH) := [([0, 1, 0, 1, 1], ⟨[0, 1, 5, 6], ⟨[.dat (.slice (.int .i64)), .dat (.int .i64), .ref 0, .dat (.int .i64)], [.row (.int .i64)]⟩, 0⟩)]
noncomputable def h14 : How s14 := .code Try.f14 c14 hs14
-- tatting/tattingref1.SamePairs
noncomputable def c15 : Code := match Try.f15.body with | some c => c | none => .skip
def s15 : Sig := ⟨⟨[.dat (.slice (.pair (.int .i64) (.one (.int .i64)))), .dat (.slice (.pair (.int .i64) (.one (.int .i64))))], []⟩, ⟨[.dat .bool], []⟩⟩
def hs15 : List (List Nat × LH) := [([0, 1, 0, 1, 1], ⟨[0, 1, 5], ⟨[.dat (.slice (.pair (.int .i64) (.one (.int .i64)))), .dat (.slice (.pair (.int .i64) (.one (.int .i64)))), .dat (.int .i64)], []⟩, 0⟩)]
noncomputable def h15 : How s15 := .code Try.f15 c15 hs15
-- tatting/tattingref20.Way
noncomputable def c16 : Code := match Try.f16.body with | some c => c | none => .skip
def s16 : Sig := ⟨⟨[.dat (.slice (.int .i64)), .dat (.slice (.int .i64))], []⟩, ⟨[.dat (.slice (.pair (.int .i64) (.one (.int .i64))))], []⟩⟩
def hs16 : List (List Nat × LH) := [([0, 0, 1, 1, 1, 1], ⟨[0, 1, 5, 6, 7, 8], ⟨[.dat (.slice (.int .i64)), .dat (.slice (.int .i64)), .dat (.slice (.slice (.int .i64))), .ref 0, .dat (.int .i64), .dat (.int .i64)], [.row (.pair (.int .i64) (.one (.int .i64)))]⟩, 0⟩), ([0, 1, 0, 1, 1, 1, 1, 1, 1], ⟨[6, 9, 10], ⟨[.ref 0, .ref 1, .dat (.int .i64)], [.row (.pair (.int .i64) (.one (.int .i64))), .row (.pair (.int .i64) (.one (.int .i64)))]⟩, 3⟩)]
noncomputable def h16 : How s16 := .code Try.f16 c16 hs16
-- tatting/tattingref20.Steps
noncomputable def c17 : Code := match Try.f17.body with | some c => c | none => .skip
def s17 : Sig := ⟨⟨[.dat (.int .i64), .dat (.int .i64)], []⟩, ⟨[.dat (.int .i64)], []⟩⟩
def hs17 : List (List Nat × LH) := []
noncomputable def h17 : How s17 := .code Try.f17 c17 hs17
-- tatting/vec.Ones
noncomputable def c24 : Code := match Try.f24.body with | some c => c | none => .skip
def s24 : Sig := ⟨⟨[.dat (.int .i64)], []⟩, ⟨[.dat (.slice (.int .u64))], []⟩⟩
def hs24 : List (List Nat × LH) := []
noncomputable def h24 : How s24 := .code Try.f24 c24 hs24
-- tatting/walk.row
noncomputable def c25 : Code := match Try.f25.body with | some c => c | none => .skip
def s25 : Sig := ⟨⟨[.dat (.int .i64), .dat (.slice (.int .u64)), .dat (.slice (.int .u64)), .dat (.int .i64)], []⟩, ⟨[.dat (.slice (.int .u64))], []⟩⟩
def hs25 : List (List Nat × LH) := []
noncomputable def h25 : How s25 := .code Try.f25 c25 hs25
-- tatting/vec.Get
noncomputable def c27 : Code := match Try.f27.body with | some c => c | none => .skip
def s27 : Sig := ⟨⟨[.dat (.slice (.int .u64)), .dat (.int .i64)], []⟩, ⟨[.dat .bool], []⟩⟩
def hs27 : List (List Nat × LH) := []
noncomputable def h27 : How s27 := .code Try.f27 c27 hs27
-- slices.Reverse[[]tatting/api.Pair,tatting/api.Pair]
noncomputable def c28 : Code := match Try.f28.body with | some c => c | none => .skip
def s28 : Sig := ⟨⟨[.ref 0], [.row (.pair (.int .i64) (.one (.int .i64)))]⟩, ⟨[], [.row (.pair (.int .i64) (.one (.int .i64)))]⟩⟩
def hs28 : List (List Nat × LH) := [([0, 1], ⟨[0, 2, 3], ⟨[.ref 0, .dat (.int .i64), .dat (.int .i64)], [.row (.pair (.int .i64) (.one (.int .i64)))]⟩, 0⟩)]
noncomputable def h28 : How s28 := .code Try.f28 c28 hs28
-- tatting/hyyro.Steps
noncomputable def c29 : Code := match Try.f29.body with | some c => c | none => .skip
def s29 : Sig := ⟨⟨[.dat (.int .i64), .dat (.int .i64)], []⟩, ⟨[.dat (.int .i64)], []⟩⟩
def hs29 : List (List Nat × LH) := []
noncomputable def h29 : How s29 := .code Try.f29 c29 hs29
-- tatting/walk.is
noncomputable def c30 : Code := match Try.f30.body with | some c => c | none => .skip
def s30 : Sig := ⟨⟨[.dat (.int .i64)], []⟩, ⟨[.dat .bool], []⟩⟩
def hs30 : List (List Nat × LH) := []
noncomputable def h30 : How s30 := .code Try.f30 c30 hs30
-- tatting/vec.Words
noncomputable def c31 : Code := match Try.f31.body with | some c => c | none => .skip
def s31 : Sig := ⟨⟨[.dat (.int .i64)], []⟩, ⟨[.dat (.int .i64)], []⟩⟩
def hs31 : List (List Nat × LH) := []
noncomputable def h31 : How s31 := .code Try.f31 c31 hs31
-- tatting/tattingref5.Words
noncomputable def c33 : Code := match Try.f33.body with | some c => c | none => .skip
def s33 : Sig := ⟨⟨[.dat (.int .i64)], []⟩, ⟨[.dat (.int .i64)], []⟩⟩
def hs33 : List (List Nat × LH) := []
noncomputable def h33 : How s33 := .code Try.f33 c33 hs33
-- tatting/vec.Not
noncomputable def c38 : Code := match Try.f38.body with | some c => c | none => .skip
def s38 : Sig := ⟨⟨[.dat (.slice (.int .u64)), .dat (.int .i64)], []⟩, ⟨[.dat (.slice (.int .u64))], []⟩⟩
def hs38 : List (List Nat × LH) := [([0, 1, 0, 1, 1], ⟨[0, 1, 5, 11, 12], ⟨[.dat (.slice (.int .u64)), .dat (.int .i64), .ref 0, .dat (.int .i64), .dat (.int .i64)], [.row (.int .u64)]⟩, 0⟩)]
noncomputable def h38 : How s38 := .code Try.f38 c38 hs38
-- tatting/croch.Row
noncomputable def c39 : Code := match Try.f39.body with | some c => c | none => .skip
def s39 : Sig := ⟨⟨[.dat (.slice (.int .u64)), .dat (.slice (.int .u64)), .dat (.int .i64)], []⟩, ⟨[.dat (.slice (.int .u64))], []⟩⟩
def hs39 : List (List Nat × LH) := []
noncomputable def h39 : How s39 := .code Try.f39 c39 hs39
-- tatting/hyyro.Row
noncomputable def c40 : Code := match Try.f40.body with | some c => c | none => .skip
def s40 : Sig := ⟨⟨[.dat (.slice (.int .u64)), .dat (.slice (.int .u64)), .dat (.int .i64)], []⟩, ⟨[.dat (.slice (.int .u64))], []⟩⟩
def hs40 : List (List Nat × LH) := []
noncomputable def h40 : How s40 := .code Try.f40 c40 hs40
-- tatting/vec.Fit
noncomputable def c41 : Code := match Try.f41.body with | some c => c | none => .skip
def s41 : Sig := ⟨⟨[.dat (.slice (.int .u64)), .dat (.int .i64)], []⟩, ⟨[.dat (.slice (.int .u64))], []⟩⟩
def hs41 : List (List Nat × LH) := [([0, 1, 0, 1, 1], ⟨[0, 1, 5, 11, 12], ⟨[.dat (.slice (.int .u64)), .dat (.int .i64), .ref 0, .dat (.int .i64), .dat (.int .i64)], [.row (.int .u64)]⟩, 0⟩)]
noncomputable def h41 : How s41 := .code Try.f41 c41 hs41
-- tatting/vec.inside
noncomputable def c42 : Code := match Try.f42.body with | some c => c | none => .skip
def s42 : Sig := ⟨⟨[.dat (.slice (.int .u64)), .dat (.int .i64)], []⟩, ⟨[.dat .bool], []⟩⟩
def hs42 : List (List Nat × LH) := []
noncomputable def h42 : How s42 := .code Try.f42 c42 hs42
-- tatting/hyyro.is
noncomputable def c43 : Code := match Try.f43.body with | some c => c | none => .skip
def s43 : Sig := ⟨⟨[.dat (.int .i64)], []⟩, ⟨[.dat .bool], []⟩⟩
def hs43 : List (List Nat × LH) := []
noncomputable def h43 : How s43 := .code Try.f43 c43 hs43
-- tatting/vec.width
noncomputable def c44 : Code := match Try.f44.body with | some c => c | none => .skip
def s44 : Sig := ⟨⟨[.dat (.int .i64)], []⟩, ⟨[.dat (.int .i64)], []⟩⟩
def hs44 : List (List Nat × LH) := []
noncomputable def h44 : How s44 := .code Try.f44 c44 hs44
-- tatting/tattingref5.Width
noncomputable def c46 : Code := match Try.f46.body with | some c => c | none => .skip
def s46 : Sig := ⟨⟨[.dat (.int .i64)], []⟩, ⟨[.dat (.int .i64)], []⟩⟩
def hs46 : List (List Nat × LH) := []
noncomputable def h46 : How s46 := .code Try.f46 c46 hs46
-- tatting/vec.at
noncomputable def c49 : Code := match Try.f49.body with | some c => c | none => .skip
def s49 : Sig := ⟨⟨[.dat (.slice (.int .u64)), .dat (.int .i64)], []⟩, ⟨[.dat (.int .u64)], []⟩⟩
def hs49 : List (List Nat × LH) := []
noncomputable def h49 : How s49 := .code Try.f49 c49 hs49
-- tatting/vec.mask
noncomputable def c50 : Code := match Try.f50.body with | some c => c | none => .skip
def s50 : Sig := ⟨⟨[.dat (.int .i64), .dat (.int .i64)], []⟩, ⟨[.dat (.int .u64)], []⟩⟩
def hs50 : List (List Nat × LH) := []
noncomputable def h50 : How s50 := .code Try.f50 c50 hs50
-- tatting/vec.Or
noncomputable def c51 : Code := match Try.f51.body with | some c => c | none => .skip
def s51 : Sig := ⟨⟨[.dat (.slice (.int .u64)), .dat (.slice (.int .u64))], []⟩, ⟨[.dat (.slice (.int .u64))], []⟩⟩
def hs51 : List (List Nat × LH) := [([0, 1, 0, 1, 1], ⟨[0, 1, 5, 14, 15], ⟨[.dat (.slice (.int .u64)), .dat (.slice (.int .u64)), .ref 0, .dat (.int .i64), .dat (.int .i64)], [.row (.int .u64)]⟩, 0⟩)]
noncomputable def h51 : How s51 := .code Try.f51 c51 hs51
-- tatting/vec.Add
noncomputable def c52 : Code := match Try.f52.body with | some c => c | none => .skip
def s52 : Sig := ⟨⟨[.dat (.slice (.int .u64)), .dat (.slice (.int .u64))], []⟩, ⟨[.dat (.slice (.int .u64))], []⟩⟩
def hs52 : List (List Nat × LH) := [([0, 1, 0, 1, 1, 1], ⟨[0, 1, 5, 6, 15, 16], ⟨[.dat (.slice (.int .u64)), .dat (.slice (.int .u64)), .ref 0, .dat (.int .u64), .dat (.int .i64), .dat (.int .i64)], [.row (.int .u64)]⟩, 0⟩)]
noncomputable def h52 : How s52 := .code Try.f52 c52 hs52
-- tatting/vec.And
noncomputable def c53 : Code := match Try.f53.body with | some c => c | none => .skip
def s53 : Sig := ⟨⟨[.dat (.slice (.int .u64)), .dat (.slice (.int .u64))], []⟩, ⟨[.dat (.slice (.int .u64))], []⟩⟩
def hs53 : List (List Nat × LH) := [([0, 1, 0, 1, 1], ⟨[0, 1, 5, 14, 15], ⟨[.dat (.slice (.int .u64)), .dat (.slice (.int .u64)), .ref 0, .dat (.int .i64), .dat (.int .i64)], [.row (.int .u64)]⟩, 0⟩)]
noncomputable def h53 : How s53 := .code Try.f53 c53 hs53
-- tatting/vec.Sub
noncomputable def c54 : Code := match Try.f54.body with | some c => c | none => .skip
def s54 : Sig := ⟨⟨[.dat (.slice (.int .u64)), .dat (.slice (.int .u64))], []⟩, ⟨[.dat (.slice (.int .u64))], []⟩⟩
def hs54 : List (List Nat × LH) := [([0, 1, 0, 1, 1, 1], ⟨[0, 1, 5, 6, 15, 16], ⟨[.dat (.slice (.int .u64)), .dat (.slice (.int .u64)), .ref 0, .dat (.int .u64), .dat (.int .i64), .dat (.int .i64)], [.row (.int .u64)]⟩, 0⟩)]
noncomputable def h54 : How s54 := .code Try.f54 c54 hs54
-- tatting/mask.New
def s23 : Sig := ⟨⟨[.dat (.slice (.int .i64))], []⟩, ⟨[.dat (.ext 0)], []⟩⟩
def h23 : How s23 := .orc (fun _ x => maskNew x)
-- (*tatting/mask.Masks).Of
def s26 : Sig := ⟨⟨[.dat (.ext 0), .dat (.int .i64)], []⟩, ⟨[.dat (.slice (.int .u64))], []⟩⟩
def h26 : How s26 := .orc (fun _ x => maskOf x)
-- tatting/tattingref7.Ahead
def s32 : Sig := ⟨⟨[.dat (.slice (.int .i64)), .dat (.slice (.int .i64))], []⟩, ⟨[.dat (.slice (.slice (.int .i64)))], []⟩⟩
def h32 : How s32 := .orc (fun _ x => GridY.ahdS x)
-- math/bits.Add64
def s66 : Sig := ⟨⟨[.dat (.int .u64), .dat (.int .u64), .dat (.int .u64)], []⟩, ⟨[.dat (.int .u64), .dat (.int .u64)], []⟩⟩
def h66 : How s66 := .orc (fun _ x => add64 x)
-- math/bits.Sub64
def s67 : Sig := ⟨⟨[.dat (.int .u64), .dat (.int .u64), .dat (.int .u64)], []⟩, ⟨[.dat (.int .u64), .dat (.int .u64)], []⟩⟩
def h67 : How s67 := .orc (fun _ x => sub64 x)
noncomputable def E : Env := {
  fns := [⟨Sig.none, .none⟩,
    ⟨Sig.none, .none⟩,
    ⟨Sig.none, .none⟩,
    ⟨Sig.none, .none⟩,
    ⟨s4, h4⟩,
    ⟨Sig.none, .none⟩,
    ⟨Sig.none, .none⟩,
    ⟨Sig.none, .none⟩,
    ⟨s8, h8⟩,
    ⟨s9, h9⟩,
    ⟨s10, h10⟩,
    ⟨s11, h11⟩,
    ⟨s12, h12⟩,
    ⟨s13, h13⟩,
    ⟨s14, h14⟩,
    ⟨s15, h15⟩,
    ⟨s16, h16⟩,
    ⟨s17, h17⟩,
    ⟨Sig.none, .none⟩,
    ⟨Sig.none, .none⟩,
    ⟨Sig.none, .none⟩,
    ⟨Sig.none, .none⟩,
    ⟨Sig.none, .none⟩,
    ⟨s23, h23⟩,
    ⟨s24, h24⟩,
    ⟨s25, h25⟩,
    ⟨s26, h26⟩,
    ⟨s27, h27⟩,
    ⟨s28, h28⟩,
    ⟨s29, h29⟩,
    ⟨s30, h30⟩,
    ⟨s31, h31⟩,
    ⟨s32, h32⟩,
    ⟨s33, h33⟩,
    ⟨Sig.none, .none⟩,
    ⟨Sig.none, .none⟩,
    ⟨Sig.none, .none⟩,
    ⟨Sig.none, .none⟩,
    ⟨s38, h38⟩,
    ⟨s39, h39⟩,
    ⟨s40, h40⟩,
    ⟨s41, h41⟩,
    ⟨s42, h42⟩,
    ⟨s43, h43⟩,
    ⟨s44, h44⟩,
    ⟨Sig.none, .none⟩,
    ⟨s46, h46⟩,
    ⟨Sig.none, .none⟩,
    ⟨Sig.none, .none⟩,
    ⟨s49, h49⟩,
    ⟨s50, h50⟩,
    ⟨s51, h51⟩,
    ⟨s52, h52⟩,
    ⟨s53, h53⟩,
    ⟨s54, h54⟩,
    ⟨Sig.none, .none⟩,
    ⟨Sig.none, .none⟩,
    ⟨Sig.none, .none⟩,
    ⟨Sig.none, .none⟩,
    ⟨Sig.none, .none⟩,
    ⟨Sig.none, .none⟩,
    ⟨Sig.none, .none⟩,
    ⟨Sig.none, .none⟩,
    ⟨Sig.none, .none⟩,
    ⟨Sig.none, .none⟩,
    ⟨Sig.none, .none⟩,
    ⟨s66, h66⟩,
    ⟨s67, h67⟩],
  tys := [none,
    none,
    some ⟨(.int .i64), 0⟩,
    some ⟨(.int .i64), 0⟩,
    some ⟨.bool, 0⟩,
    none,
    none,
    none,
    none,
    none,
    none,
    none,
    none,
    none,
    none,
    none,
    none,
    none,
    none,
    none,
    none,
    none,
    some ⟨(.slice (.pair (.int .i64) (.one (.int .i64)))), 16⟩,
    some ⟨(.int .i64), 0⟩,
    none,
    none,
    some ⟨(.slice (.int .i64)), 8⟩,
    none,
    none,
    some ⟨(.pair (.int .i64) (.one (.int .i64))), 1⟩,
    none,
    none,
    none,
    none,
    none,
    none,
    none,
    none,
    none,
    none,
    none,
    none,
    none,
    none,
    none,
    some ⟨(.ext 0), 0⟩,
    none,
    some ⟨(.slice (.int .u64)), 8⟩,
    none,
    some ⟨(.slice (.slice (.int .u64))), 24⟩,
    none,
    none,
    none,
    none,
    some ⟨(.slice (.slice (.int .i64))), 24⟩,
    none,
    none,
    none,
    none,
    none,
    none,
    some ⟨(.int .u64), 0⟩,
    some ⟨(.int .u64), 0⟩,
    none,
    none,
    none,
    none,
    none,
    none,
    none,
    none,
    none,
    none,
    none,
    none,
    none,
    none,
    none,
    none,
    none,
    none,
    none,
    none,
    none,
    none,
    none,
    none,
    none,
    none,
    none,
    none,
    none,
    none,
    none,
    none,
    none,
    none,
    none,
    none,
    none,
    none,
    none,
    none,
    none,
    none,
    none,
    none,
    none,
    none] }
theorem tys : tysOK Try.prog E.tys = true := by decide +kernel
theorem ok4 (X : ExtRep) : EntryOK Try.prog X 4 s4 h4 := ⟨Try.func4, rfl, by decide, by decide⟩
theorem ok8 (X : ExtRep) : EntryOK Try.prog X 8 s8 h8 := ⟨Try.func8, rfl, by decide, by decide⟩
theorem ok9 (X : ExtRep) : EntryOK Try.prog X 9 s9 h9 := ⟨Try.func9, rfl, by decide, by decide⟩
theorem ok10 (X : ExtRep) : EntryOK Try.prog X 10 s10 h10 := ⟨Try.func10, rfl, by decide, by decide⟩
theorem ok11 (X : ExtRep) : EntryOK Try.prog X 11 s11 h11 := ⟨Try.func11, rfl, by decide, by decide⟩
theorem ok12 (X : ExtRep) : EntryOK Try.prog X 12 s12 h12 := ⟨Try.func12, rfl, by decide, by decide⟩
theorem ok13 (X : ExtRep) : EntryOK Try.prog X 13 s13 h13 := ⟨Try.func13, rfl, by decide, by decide⟩
theorem ok14 (X : ExtRep) : EntryOK Try.prog X 14 s14 h14 := ⟨Try.func14, rfl, by decide, by decide⟩
theorem ok15 (X : ExtRep) : EntryOK Try.prog X 15 s15 h15 := ⟨Try.func15, rfl, by decide, by decide⟩
theorem ok16 (X : ExtRep) : EntryOK Try.prog X 16 s16 h16 := ⟨Try.func16, rfl, by decide, by decide⟩
theorem ok17 (X : ExtRep) : EntryOK Try.prog X 17 s17 h17 := ⟨Try.func17, rfl, by decide, by decide⟩
theorem ok24 (X : ExtRep) : EntryOK Try.prog X 24 s24 h24 := ⟨Try.func24, rfl, by decide, by decide⟩
theorem ok25 (X : ExtRep) : EntryOK Try.prog X 25 s25 h25 := ⟨Try.func25, rfl, by decide, by decide⟩
theorem ok27 (X : ExtRep) : EntryOK Try.prog X 27 s27 h27 := ⟨Try.func27, rfl, by decide, by decide⟩
theorem ok28 (X : ExtRep) : EntryOK Try.prog X 28 s28 h28 := ⟨Try.func28, rfl, by decide, by decide⟩
theorem ok29 (X : ExtRep) : EntryOK Try.prog X 29 s29 h29 := ⟨Try.func29, rfl, by decide, by decide⟩
theorem ok30 (X : ExtRep) : EntryOK Try.prog X 30 s30 h30 := ⟨Try.func30, rfl, by decide, by decide⟩
theorem ok31 (X : ExtRep) : EntryOK Try.prog X 31 s31 h31 := ⟨Try.func31, rfl, by decide, by decide⟩
theorem ok33 (X : ExtRep) : EntryOK Try.prog X 33 s33 h33 := ⟨Try.func33, rfl, by decide, by decide⟩
theorem ok38 (X : ExtRep) : EntryOK Try.prog X 38 s38 h38 := ⟨Try.func38, rfl, by decide, by decide⟩
theorem ok39 (X : ExtRep) : EntryOK Try.prog X 39 s39 h39 := ⟨Try.func39, rfl, by decide, by decide⟩
theorem ok40 (X : ExtRep) : EntryOK Try.prog X 40 s40 h40 := ⟨Try.func40, rfl, by decide, by decide⟩
theorem ok41 (X : ExtRep) : EntryOK Try.prog X 41 s41 h41 := ⟨Try.func41, rfl, by decide, by decide⟩
theorem ok42 (X : ExtRep) : EntryOK Try.prog X 42 s42 h42 := ⟨Try.func42, rfl, by decide, by decide⟩
theorem ok43 (X : ExtRep) : EntryOK Try.prog X 43 s43 h43 := ⟨Try.func43, rfl, by decide, by decide⟩
theorem ok44 (X : ExtRep) : EntryOK Try.prog X 44 s44 h44 := ⟨Try.func44, rfl, by decide, by decide⟩
theorem ok46 (X : ExtRep) : EntryOK Try.prog X 46 s46 h46 := ⟨Try.func46, rfl, by decide, by decide⟩
theorem ok49 (X : ExtRep) : EntryOK Try.prog X 49 s49 h49 := ⟨Try.func49, rfl, by decide, by decide⟩
theorem ok50 (X : ExtRep) : EntryOK Try.prog X 50 s50 h50 := ⟨Try.func50, rfl, by decide, by decide⟩
theorem ok51 (X : ExtRep) : EntryOK Try.prog X 51 s51 h51 := ⟨Try.func51, rfl, by decide, by decide⟩
theorem ok52 (X : ExtRep) : EntryOK Try.prog X 52 s52 h52 := ⟨Try.func52, rfl, by decide, by decide⟩
theorem ok53 (X : ExtRep) : EntryOK Try.prog X 53 s53 h53 := ⟨Try.func53, rfl, by decide, by decide⟩
theorem ok54 (X : ExtRep) : EntryOK Try.prog X 54 s54 h54 := ⟨Try.func54, rfl, by decide, by decide⟩
-- tatting/tattinglaw22.WalkRuns
def r4 (f8 : Int → (List Int) → (List Int) → Int → Option ((List (Int × Int)) × Int × Int)) (f9 : Unit → Option (Bool)) (f14 : (List Int) → Int → Option ((List Int))) (f15 : (List (Int × Int)) → (List (Int × Int)) → Option (Bool)) (f16 : (List Int) → (List Int) → Option ((List (Int × Int)))) (f17 : Int → Int → Option (Int)) (a0 : Int) (a1 : (List Int)) (a2 : (List Int)) (a3 : Int) : Option (Bool) :=
Option.bind (f9 ()) fun y1 =>
let v2 : Bool := !y1
bif v2 then
some false
else
let v3 : Int := (a1.length : Int)
let v4 : Bool := decide (v3 > (40 : Int))
bif v4 == false then
let v5 : Int := (a2.length : Int)
let v6 : Bool := decide (v5 > (130 : Int))
bif v6 then
some true
else
Option.bind (f14 a1 (4 : Int)) fun y7 =>
Option.bind (f14 a2 (4 : Int)) fun y8 =>
Option.bind (f8 a0 y7 y8 a3) fun y9 =>
let v10 : Bool := !decide (a0 = (0 : Int))
bif v10 == true then
let v11 : Bool := !decide (a0 = (1 : Int))
bif v11 == false then
let v12 : Bool := decide (a3 < (1 : Int))
bif v12 then
let v13 : Bool := decide (y9.2.2 = (1 : Int))
bif v13 == true then
let v14 : Int := (y9.1.length : Int)
let v15 : Bool := decide (v14 = (0 : Int))
bif v15 == true then
let v16 : Bool := decide (y9.2.1 = (0 : Int))
some v16
else
some false
else
some false
else
let v17 : Bool := decide (y9.2.2 = (0 : Int))
bif v17 == true then
Option.bind (f16 y7 y8) fun y18 =>
Option.bind (f15 y9.1 y18) fun y19 =>
bif y19 == true then
let v20 : Int := (y7.length : Int)
let v21 : Int := (y8.length : Int)
Option.bind (f17 v20 v21) fun y22 =>
let v23 : Int := IntKind.wrap .i64 ((2 : Int) * y22)
let v24 : Bool := decide (y9.2.1 = v23)
some v24
else
some false
else
some false
else
let v25 : Bool := decide (y9.2.2 = (1 : Int))
bif v25 == true then
let v26 : Int := (y9.1.length : Int)
let v27 : Bool := decide (v26 = (0 : Int))
bif v27 == true then
let v28 : Bool := decide (y9.2.1 = (0 : Int))
some v28
else
some false
else
some false
else
let v29 : Bool := decide (a3 < (1 : Int))
bif v29 then
let v30 : Bool := decide (y9.2.2 = (1 : Int))
bif v30 == true then
let v31 : Int := (y9.1.length : Int)
let v32 : Bool := decide (v31 = (0 : Int))
bif v32 == true then
let v33 : Bool := decide (y9.2.1 = (0 : Int))
some v33
else
some false
else
some false
else
let v34 : Bool := decide (y9.2.2 = (0 : Int))
bif v34 == true then
Option.bind (f16 y7 y8) fun y35 =>
Option.bind (f15 y9.1 y35) fun y36 =>
bif y36 == true then
let v37 : Int := (y7.length : Int)
let v38 : Int := (y8.length : Int)
Option.bind (f17 v37 v38) fun y39 =>
let v40 : Int := IntKind.wrap .i64 ((2 : Int) * y39)
let v41 : Bool := decide (y9.2.1 = v40)
some v41
else
some false
else
some false
else
some true
-- tatting/walk.Run
def F8_0 (f23 : (List Int) → Option ((List Int))) (f24 : Int → Option ((List Int))) (f25 : Int → (List Int) → (List Int) → Int → Option ((List Int))) (f26 : (List Int) → Int → Option ((List Int))) (f27 : (List Int) → Int → Option (Bool)) (f28 : (List (Int × Int)) → Option ((List (Int × Int)))) (f29 : Int → Int → Option (Int)) (self : (Int × (List Int) × (List Int) × Int × (List Int) × Int × Int × Int × Int × Int × (List (List Int)) × (List (Int × Int)) × (List (List Int))) → Option ((Int × (List Int) × (List Int) × Int × (List Int) × Int × Int × Int × Int × Int × (List (List Int)) × (List (Int × Int)) × (List (List Int))) ⊕ ((List (Int × Int)) × Int × Int))) (z45 : Int × (List Int) × (List Int) × Int × (List Int) × Int × Int × Int × Int × Int × (List (List Int)) × (List (Int × Int)) × (List (List Int))) : Option ((Int × (List Int) × (List Int) × Int × (List Int) × Int × Int × Int × Int × Int × (List (List Int)) × (List (Int × Int)) × (List (List Int))) ⊕ ((List (Int × Int)) × Int × Int)) :=
let v46 : Bool := decide (z45.2.2.2.2.2.2.2.2.2.1 < z45.2.2.2.2.2.2.2.2.1)
bif v46 then
let v47 : Int := IntKind.wrap .i64 (z45.2.2.2.2.2.2.2.2.2.1 - z45.2.2.2.2.2.2.2.1)
if 0 ≤ v47 ∧ v47 < (z45.2.2.2.2.2.2.2.2.2.2.2.2.length : Int) then
let v48 : (List Int) := (z45.2.2.2.2.2.2.2.2.2.2.2.2.getD v47.toNat ([] : List Int))
if 0 ≤ z45.2.2.2.2.2.2.2.2.2.1 ∧ z45.2.2.2.2.2.2.2.2.2.1 < (z45.2.1.length : Int) then
let v49 : Int := z45.2.1.getD z45.2.2.2.2.2.2.2.2.2.1.toNat (0 : Int)
Option.bind (f26 z45.2.2.2.2.1 v49) fun y50 =>
let v51 : Int := (z45.2.2.1.length : Int)
Option.bind (f25 z45.1 v48 y50 v51) fun y52 =>
let v53 : (List (List Int)) := ([y52] : List (List Int))
if (z45.2.2.2.2.2.2.2.2.2.2.2.2.length + v53.length) * 24 ≤ 140737488355328 ∧ z45.2.2.2.2.2.2.2.2.2.2.2.2.length + v53.length ≤ 140737488355328 then
let v54 : (List (List Int)) := z45.2.2.2.2.2.2.2.2.2.2.2.2 ++ v53
let v55 : Int := IntKind.wrap .i64 (z45.2.2.2.2.2.2.2.2.2.1 + (1 : Int))
self (z45.1, z45.2.1, z45.2.2.1, z45.2.2.2.1, z45.2.2.2.2.1, z45.2.2.2.2.2.1, z45.2.2.2.2.2.2.1, z45.2.2.2.2.2.2.2.1, z45.2.2.2.2.2.2.2.2.1, v55, z45.2.2.2.2.2.2.2.2.2.2.1, z45.2.2.2.2.2.2.2.2.2.2.2.1, v54)
else none
else none
else none
else
some (.inl (z45.1, z45.2.1, z45.2.2.1, z45.2.2.2.1, z45.2.2.2.2.1, z45.2.2.2.2.2.1, z45.2.2.2.2.2.2.1, z45.2.2.2.2.2.2.2.1, z45.2.2.2.2.2.2.2.2.1, z45.2.2.2.2.2.2.2.2.2.1, z45.2.2.2.2.2.2.2.2.2.2.1, z45.2.2.2.2.2.2.2.2.2.2.2.1, z45.2.2.2.2.2.2.2.2.2.2.2.2))
def F8_1 (f23 : (List Int) → Option ((List Int))) (f24 : Int → Option ((List Int))) (f25 : Int → (List Int) → (List Int) → Int → Option ((List Int))) (f26 : (List Int) → Int → Option ((List Int))) (f27 : (List Int) → Int → Option (Bool)) (f28 : (List (Int × Int)) → Option ((List (Int × Int)))) (f29 : Int → Int → Option (Int)) (self : (Int × (List Int) × (List Int) × Int × (List Int) × (List Int) × (List Int) × Int × Int × (List (List Int))) → Option ((Int × (List Int) × (List Int) × Int × (List Int) × (List Int) × (List Int) × Int × Int × (List (List Int))) ⊕ ((List (Int × Int)) × Int × Int))) (z13 : Int × (List Int) × (List Int) × Int × (List Int) × (List Int) × (List Int) × Int × Int × (List (List Int))) : Option ((Int × (List Int) × (List Int) × Int × (List Int) × (List Int) × (List Int) × Int × Int × (List (List Int))) ⊕ ((List (Int × Int)) × Int × Int)) :=
let v14 : Bool := decide (z13.2.2.2.2.2.2.2.2.1 < z13.2.2.2.2.2.2.2.1)
bif v14 then
if 0 ≤ z13.2.2.2.2.2.2.2.2.1 ∧ z13.2.2.2.2.2.2.2.2.1 < (z13.2.2.2.2.2.2.1.length : Int) then
let v15 : Int := z13.2.2.2.2.2.2.1.getD z13.2.2.2.2.2.2.2.2.1.toNat (0 : Int)
if z13.2.2.2.1 = 0 then none else
let v16 : Int := z13.2.2.2.2.2.2.2.2.1.tmod z13.2.2.2.1
let v17 : Bool := decide (v16 = (0 : Int))
bif v17 then
let v18 : (List (List Int)) := ([z13.2.2.2.2.2.1] : List (List Int))
if (z13.2.2.2.2.2.2.2.2.2.length + v18.length) * 24 ≤ 140737488355328 ∧ z13.2.2.2.2.2.2.2.2.2.length + v18.length ≤ 140737488355328 then
let v19 : (List (List Int)) := z13.2.2.2.2.2.2.2.2.2 ++ v18
Option.bind (f26 z13.2.2.2.2.1 v15) fun y20 =>
let v21 : Int := (z13.2.2.1.length : Int)
Option.bind (f25 z13.1 z13.2.2.2.2.2.1 y20 v21) fun y22 =>
let v23 : Int := IntKind.wrap .i64 (z13.2.2.2.2.2.2.2.2.1 + (1 : Int))
self (z13.1, z13.2.1, z13.2.2.1, z13.2.2.2.1, z13.2.2.2.2.1, y22, z13.2.2.2.2.2.2.1, z13.2.2.2.2.2.2.2.1, v23, v19)
else none
else
Option.bind (f26 z13.2.2.2.2.1 v15) fun y24 =>
let v25 : Int := (z13.2.2.1.length : Int)
Option.bind (f25 z13.1 z13.2.2.2.2.2.1 y24 v25) fun y26 =>
let v27 : Int := IntKind.wrap .i64 (z13.2.2.2.2.2.2.2.2.1 + (1 : Int))
self (z13.1, z13.2.1, z13.2.2.1, z13.2.2.2.1, z13.2.2.2.2.1, y26, z13.2.2.2.2.2.2.1, z13.2.2.2.2.2.2.2.1, v27, z13.2.2.2.2.2.2.2.2.2)
else none
else
some (.inl (z13.1, z13.2.1, z13.2.2.1, z13.2.2.2.1, z13.2.2.2.2.1, z13.2.2.2.2.2.1, z13.2.2.2.2.2.2.1, z13.2.2.2.2.2.2.2.1, z13.2.2.2.2.2.2.2.2.1, z13.2.2.2.2.2.2.2.2.2))
def F8_2 (f23 : (List Int) → Option ((List Int))) (f24 : Int → Option ((List Int))) (f25 : Int → (List Int) → (List Int) → Int → Option ((List Int))) (f26 : (List Int) → Int → Option ((List Int))) (f27 : (List Int) → Int → Option (Bool)) (f28 : (List (Int × Int)) → Option ((List (Int × Int)))) (f29 : Int → Int → Option (Int)) (lp0 : (Int × (List Int) × (List Int) × Int × (List Int) × Int × Int × Int × Int × Int × (List (List Int)) × (List (Int × Int)) × (List (List Int))) → Option ((Int × (List Int) × (List Int) × Int × (List Int) × Int × Int × Int × Int × Int × (List (List Int)) × (List (Int × Int)) × (List (List Int))) ⊕ ((List (Int × Int)) × Int × Int))) (lp3 : (Int × (List Int) × (List Int) × Int × (List Int) × Int × Int × Int × Int × (List (List Int)) × (List (Int × Int)) × (List (List Int))) → Option ((Int × (List Int) × (List Int) × Int × (List Int) × Int × Int × Int × Int × (List (List Int)) × (List (Int × Int)) × (List (List Int))) ⊕ ((List (Int × Int)) × Int × Int))) (self : (Int × (List Int) × (List Int) × Int × (List Int) × Int × Int × (List (List Int)) × (List (Int × Int))) → Option ((Int × (List Int) × (List Int) × Int × (List Int) × Int × Int × (List (List Int)) × (List (Int × Int))) ⊕ ((List (Int × Int)) × Int × Int))) (z34 : Int × (List Int) × (List Int) × Int × (List Int) × Int × Int × (List (List Int)) × (List (Int × Int))) : Option ((Int × (List Int) × (List Int) × Int × (List Int) × Int × Int × (List (List Int)) × (List (Int × Int))) ⊕ ((List (Int × Int)) × Int × Int)) :=
let v35 : Bool := decide (z34.2.2.2.2.2.2.1 ≥ (0 : Int))
bif v35 then
let v36 : Int := IntKind.wrap .i64 (z34.2.2.2.2.2.2.1 * z34.2.2.2.1)
let v37 : Int := IntKind.wrap .i64 (z34.2.2.2.2.2.2.1 * z34.2.2.2.1)
let v38 : Int := IntKind.wrap .i64 (v37 + z34.2.2.2.1)
let v39 : Int := (z34.2.1.length : Int)
let v40 : Int := if v39 < v38 then v39 else v38
if 0 ≤ z34.2.2.2.2.2.2.1 ∧ z34.2.2.2.2.2.2.1 < (z34.2.2.2.2.2.2.2.1.length : Int) then
let v41 : (List Int) := (z34.2.2.2.2.2.2.2.1.getD z34.2.2.2.2.2.2.1.toNat ([] : List Int))
let v42 : (List (List Int)) := ([v41] : List (List Int))
Option.bind (lp0 (z34.1, z34.2.1, z34.2.2.1, z34.2.2.2.1, z34.2.2.2.2.1, z34.2.2.2.2.2.1, z34.2.2.2.2.2.2.1, v36, v40, v36, z34.2.2.2.2.2.2.2.1, z34.2.2.2.2.2.2.2.2, v42)) fun s43 => onSum s43 (fun y44 =>
Option.bind (lp3 (y44.1, y44.2.1, y44.2.2.1, y44.2.2.2.1, y44.2.2.2.2.1, y44.2.2.2.2.2.1, y44.2.2.2.2.2.2.1, y44.2.2.2.2.2.2.2.1, y44.2.2.2.2.2.2.2.2.1, y44.2.2.2.2.2.2.2.2.2.2.1, y44.2.2.2.2.2.2.2.2.2.2.2.1, y44.2.2.2.2.2.2.2.2.2.2.2.2)) fun s57 => onSum s57 (fun y58 =>
let v81 : Int := IntKind.wrap .i64 (y58.2.2.2.2.2.2.1 - (1 : Int))
self (y58.1, y58.2.1, y58.2.2.1, y58.2.2.2.1, y58.2.2.2.2.1, y58.2.2.2.2.2.1, v81, y58.2.2.2.2.2.2.2.2.2.1, y58.2.2.2.2.2.2.2.2.2.2.1)) (fun o80 => some (.inr o80))) (fun o56 => some (.inr o56))
else none
else
some (.inl (z34.1, z34.2.1, z34.2.2.1, z34.2.2.2.1, z34.2.2.2.2.1, z34.2.2.2.2.2.1, z34.2.2.2.2.2.2.1, z34.2.2.2.2.2.2.2.1, z34.2.2.2.2.2.2.2.2))
def F8_3 (f23 : (List Int) → Option ((List Int))) (f24 : Int → Option ((List Int))) (f25 : Int → (List Int) → (List Int) → Int → Option ((List Int))) (f26 : (List Int) → Int → Option ((List Int))) (f27 : (List Int) → Int → Option (Bool)) (f28 : (List (Int × Int)) → Option ((List (Int × Int)))) (f29 : Int → Int → Option (Int)) (self : (Int × (List Int) × (List Int) × Int × (List Int) × Int × Int × Int × Int × (List (List Int)) × (List (Int × Int)) × (List (List Int))) → Option ((Int × (List Int) × (List Int) × Int × (List Int) × Int × Int × Int × Int × (List (List Int)) × (List (Int × Int)) × (List (List Int))) ⊕ ((List (Int × Int)) × Int × Int))) (z59 : Int × (List Int) × (List Int) × Int × (List Int) × Int × Int × Int × Int × (List (List Int)) × (List (Int × Int)) × (List (List Int))) : Option ((Int × (List Int) × (List Int) × Int × (List Int) × Int × Int × Int × Int × (List (List Int)) × (List (Int × Int)) × (List (List Int))) ⊕ ((List (Int × Int)) × Int × Int)) :=
let v60 : Bool := decide (z59.2.2.2.2.2.2.2.2.1 > z59.2.2.2.2.2.2.2.1)
bif v60 == true then
let v61 : Bool := decide (z59.2.2.2.2.2.1 > (0 : Int))
bif v61 then
let v62 : Int := IntKind.wrap .i64 (z59.2.2.2.2.2.2.2.2.1 - z59.2.2.2.2.2.2.2.1)
if 0 ≤ v62 ∧ v62 < (z59.2.2.2.2.2.2.2.2.2.2.2.length : Int) then
let v63 : (List Int) := (z59.2.2.2.2.2.2.2.2.2.2.2.getD v62.toNat ([] : List Int))
let v64 : Int := IntKind.wrap .i64 (z59.2.2.2.2.2.1 - (1 : Int))
Option.bind (f27 v63 v64) fun y65 =>
bif y65 then
let v66 : Int := IntKind.wrap .i64 (z59.2.2.2.2.2.1 - (1 : Int))
self (z59.1, z59.2.1, z59.2.2.1, z59.2.2.2.1, z59.2.2.2.2.1, v66, z59.2.2.2.2.2.2.1, z59.2.2.2.2.2.2.2.1, z59.2.2.2.2.2.2.2.2.1, z59.2.2.2.2.2.2.2.2.2.1, z59.2.2.2.2.2.2.2.2.2.2.1, z59.2.2.2.2.2.2.2.2.2.2.2)
else
let v67 : Int := IntKind.wrap .i64 (z59.2.2.2.2.2.2.2.2.1 - (1 : Int))
if 0 ≤ v67 ∧ v67 < (z59.2.1.length : Int) then
let v68 : Int := z59.2.1.getD v67.toNat (0 : Int)
let v69 : Int := IntKind.wrap .i64 (z59.2.2.2.2.2.1 - (1 : Int))
if 0 ≤ v69 ∧ v69 < (z59.2.2.1.length : Int) then
let v70 : Int := z59.2.2.1.getD v69.toNat (0 : Int)
let v71 : Bool := decide (v68 = v70)
bif v71 then
let v72 : Int := IntKind.wrap .i64 (z59.2.2.2.2.2.2.2.2.1 - (1 : Int))
let v73 : Int := IntKind.wrap .i64 (z59.2.2.2.2.2.1 - (1 : Int))
let v74 : (Int × Int) := (v72, v73)
let v75 : (List (Int × Int)) := ([v74] : List (Int × Int))
if (z59.2.2.2.2.2.2.2.2.2.2.1.length + v75.length) * 16 ≤ 140737488355328 ∧ z59.2.2.2.2.2.2.2.2.2.2.1.length + v75.length ≤ 140737488355328 then
let v76 : (List (Int × Int)) := z59.2.2.2.2.2.2.2.2.2.2.1 ++ v75
let v77 : Int := IntKind.wrap .i64 (z59.2.2.2.2.2.2.2.2.1 - (1 : Int))
let v78 : Int := IntKind.wrap .i64 (z59.2.2.2.2.2.1 - (1 : Int))
self (z59.1, z59.2.1, z59.2.2.1, z59.2.2.2.1, z59.2.2.2.2.1, v78, z59.2.2.2.2.2.2.1, z59.2.2.2.2.2.2.2.1, v77, z59.2.2.2.2.2.2.2.2.2.1, v76, z59.2.2.2.2.2.2.2.2.2.2.2)
else none
else
let v79 : Int := IntKind.wrap .i64 (z59.2.2.2.2.2.2.2.2.1 - (1 : Int))
self (z59.1, z59.2.1, z59.2.2.1, z59.2.2.2.1, z59.2.2.2.2.1, z59.2.2.2.2.2.1, z59.2.2.2.2.2.2.1, z59.2.2.2.2.2.2.2.1, v79, z59.2.2.2.2.2.2.2.2.2.1, z59.2.2.2.2.2.2.2.2.2.2.1, z59.2.2.2.2.2.2.2.2.2.2.2)
else none
else none
else none
else
some (.inl (z59.1, z59.2.1, z59.2.2.1, z59.2.2.2.1, z59.2.2.2.2.1, z59.2.2.2.2.2.1, z59.2.2.2.2.2.2.1, z59.2.2.2.2.2.2.2.1, z59.2.2.2.2.2.2.2.2.1, z59.2.2.2.2.2.2.2.2.2.1, z59.2.2.2.2.2.2.2.2.2.2.1, z59.2.2.2.2.2.2.2.2.2.2.2))
else
some (.inl (z59.1, z59.2.1, z59.2.2.1, z59.2.2.2.1, z59.2.2.2.2.1, z59.2.2.2.2.2.1, z59.2.2.2.2.2.2.1, z59.2.2.2.2.2.2.2.1, z59.2.2.2.2.2.2.2.2.1, z59.2.2.2.2.2.2.2.2.2.1, z59.2.2.2.2.2.2.2.2.2.2.1, z59.2.2.2.2.2.2.2.2.2.2.2))
def r8 (f23 : (List Int) → Option ((List Int))) (f24 : Int → Option ((List Int))) (f25 : Int → (List Int) → (List Int) → Int → Option ((List Int))) (f26 : (List Int) → Int → Option ((List Int))) (f27 : (List Int) → Int → Option (Bool)) (f28 : (List (Int × Int)) → Option ((List (Int × Int)))) (f29 : Int → Int → Option (Int)) (lp0 : (Int × (List Int) × (List Int) × Int × (List Int) × Int × Int × Int × Int × Int × (List (List Int)) × (List (Int × Int)) × (List (List Int))) → Option ((Int × (List Int) × (List Int) × Int × (List Int) × Int × Int × Int × Int × Int × (List (List Int)) × (List (Int × Int)) × (List (List Int))) ⊕ ((List (Int × Int)) × Int × Int))) (lp1 : (Int × (List Int) × (List Int) × Int × (List Int) × (List Int) × (List Int) × Int × Int × (List (List Int))) → Option ((Int × (List Int) × (List Int) × Int × (List Int) × (List Int) × (List Int) × Int × Int × (List (List Int))) ⊕ ((List (Int × Int)) × Int × Int))) (lp2 : (Int × (List Int) × (List Int) × Int × (List Int) × Int × Int × (List (List Int)) × (List (Int × Int))) → Option ((Int × (List Int) × (List Int) × Int × (List Int) × Int × Int × (List (List Int)) × (List (Int × Int))) ⊕ ((List (Int × Int)) × Int × Int))) (lp3 : (Int × (List Int) × (List Int) × Int × (List Int) × Int × Int × Int × Int × (List (List Int)) × (List (Int × Int)) × (List (List Int))) → Option ((Int × (List Int) × (List Int) × Int × (List Int) × Int × Int × Int × Int × (List (List Int)) × (List (Int × Int)) × (List (List Int))) ⊕ ((List (Int × Int)) × Int × Int))) (a0 : Int) (a1 : (List Int)) (a2 : (List Int)) (a3 : Int) : Option ((List (Int × Int)) × Int × Int) :=
let v1 : Bool := !decide (a0 = (0 : Int))
bif v1 == true then
let v2 : Bool := !decide (a0 = (1 : Int))
bif v2 == false then
let v3 : Bool := decide (a3 < (1 : Int))
bif v3 then
some (([] : List (Int × Int)), (0 : Int), (1 : Int))
else
let v4 : Int := (a1.length : Int)
let v5 : Int := if (1 : Int) > v4 then (1 : Int) else v4
let v6 : Int := if v5 < a3 then v5 else a3
Option.bind (f23 a2) fun y7 =>
let v8 : Int := (a2.length : Int)
Option.bind (f24 v8) fun y9 =>
let v10 : Int := (a1.length : Int)
Option.bind (lp1 (a0, a1, a2, v6, y7, y9, a1, v10, (0 : Int), ([] : List (List Int)))) fun s11 => onSum s11 (fun y12 =>
let v29 : Int := (y12.2.2.1.length : Int)
let v30 : Int := (y12.2.2.2.2.2.2.2.2.2.length : Int)
let v31 : Int := IntKind.wrap .i64 (v30 - (1 : Int))
Option.bind (lp2 (y12.1, y12.2.1, y12.2.2.1, y12.2.2.2.1, y12.2.2.2.2.1, v29, v31, y12.2.2.2.2.2.2.2.2.2, ([] : List (Int × Int)))) fun s32 => onSum s32 (fun y33 =>
Option.bind (f28 y33.2.2.2.2.2.2.2.2) fun y83 =>
let v84 : Int := (y33.2.1.length : Int)
let v85 : Int := (y33.2.2.1.length : Int)
Option.bind (f29 v84 v85) fun y86 =>
let v87 : Int := IntKind.wrap .i64 ((2 : Int) * y86)
some (y83, v87, (0 : Int))) (fun o82 => some o82)) (fun o28 => some o28)
else
some (([] : List (Int × Int)), (0 : Int), (1 : Int))
else
let v88 : Bool := decide (a3 < (1 : Int))
bif v88 then
some (([] : List (Int × Int)), (0 : Int), (1 : Int))
else
let v89 : Int := (a1.length : Int)
let v90 : Int := if (1 : Int) > v89 then (1 : Int) else v89
let v91 : Int := if v90 < a3 then v90 else a3
Option.bind (f23 a2) fun y92 =>
let v93 : Int := (a2.length : Int)
Option.bind (f24 v93) fun y94 =>
let v95 : Int := (a1.length : Int)
Option.bind (lp1 (a0, a1, a2, v91, y92, y94, a1, v95, (0 : Int), ([] : List (List Int)))) fun s96 => onSum s96 (fun y97 =>
let v99 : Int := (y97.2.2.1.length : Int)
let v100 : Int := (y97.2.2.2.2.2.2.2.2.2.length : Int)
let v101 : Int := IntKind.wrap .i64 (v100 - (1 : Int))
Option.bind (lp2 (y97.1, y97.2.1, y97.2.2.1, y97.2.2.2.1, y97.2.2.2.2.1, v99, v101, y97.2.2.2.2.2.2.2.2.2, ([] : List (Int × Int)))) fun s102 => onSum s102 (fun y103 =>
Option.bind (f28 y103.2.2.2.2.2.2.2.2) fun y105 =>
let v106 : Int := (y103.2.1.length : Int)
let v107 : Int := (y103.2.2.1.length : Int)
Option.bind (f29 v106 v107) fun y108 =>
let v109 : Int := IntKind.wrap .i64 ((2 : Int) * y108)
some (y105, v109, (0 : Int))) (fun o104 => some o104)) (fun o98 => some o98)
-- tatting/tattinglaw22.awake
def r9 (f8 : Int → (List Int) → (List Int) → Int → Option ((List (Int × Int)) × Int × Int)) (f10 : Int → Int → Option ((List Int))) (f11 : (List Int) → (List Int) → Option (Bool)) (f12 : Int → Int → Int → Option (Int)) (f13 : Int → Option (Int)) (_ : Unit) : Option (Bool) :=
let v1 : (List Int) := ([(1 : Int), (2 : Int)] : List Int)
let v2 : (List Int) := ([(2 : Int), (1 : Int)] : List Int)
Option.bind (f8 (0 : Int) v1 v2 (1 : Int)) fun y3 =>
let v4 : Bool := decide (y3.2.2 = (0 : Int))
bif v4 == true then
let v5 : Int := (y3.1.length : Int)
let v6 : Bool := decide (v5 = (1 : Int))
bif v6 == true then
let v7 : Bool := decide (y3.2.1 = (4 : Int))
bif v7 == true then
Option.bind (f10 (5 : Int) (2 : Int)) fun y8 =>
let v9 : (List Int) := ([(0 : Int), (2 : Int), (4 : Int)] : List Int)
Option.bind (f11 y8 v9) fun y10 =>
bif y10 == true then
Option.bind (f13 (5 : Int)) fun y11 =>
let v12 : Bool := decide (y11 = (3 : Int))
bif v12 == true then
Option.bind (f12 (5 : Int) (65 : Int) (2 : Int)) fun y13 =>
let v14 : Bool := decide (y13 = (10 : Int))
some v14
else
some false
else
some false
else
some false
else
some false
else
some false
-- tatting/walk.Kept
def F10_0 (f30 : Int → Option (Bool)) (self : (Int × Int × Int × (List Int)) → Option ((Int × Int × Int × (List Int)) ⊕ ((List Int)))) (z7 : Int × Int × Int × (List Int)) : Option ((Int × Int × Int × (List Int)) ⊕ ((List Int))) :=
let v8 : Bool := decide (z7.2.2.1 < z7.1)
bif v8 then
let v9 : (List Int) := ([z7.2.2.1] : List Int)
if (z7.2.2.2.length + v9.length) * 8 ≤ 140737488355328 ∧ z7.2.2.2.length + v9.length ≤ 140737488355328 then
let v10 : (List Int) := z7.2.2.2 ++ v9
let v11 : Int := IntKind.wrap .i64 (z7.2.2.1 + z7.2.1)
self (z7.1, z7.2.1, v11, v10)
else none
else
some (.inl (z7.1, z7.2.1, z7.2.2.1, z7.2.2.2))
def r10 (f30 : Int → Option (Bool)) (lp0 : (Int × Int × Int × (List Int)) → Option ((Int × Int × Int × (List Int)) ⊕ ((List Int)))) (a0 : Int) (a1 : Int) : Option ((List Int)) :=
Option.bind (f30 a0) fun y1 =>
let v2 : Bool := !y1
bif v2 == false then
let v3 : Bool := decide (a1 < (1 : Int))
bif v3 then
some ([] : List Int)
else
let v4 : (List Int) := ([(0 : Int)] : List Int)
Option.bind (lp0 (a0, a1, a1, v4)) fun s5 => onSum s5 (fun y6 =>
some y6.2.2.2) (fun o12 => some o12)
else
some ([] : List Int)
-- tatting/tattingref1.SameInts
def F11_0 (self : ((List Int) × (List Int) × Int) → Option (((List Int) × (List Int) × Int) ⊕ (Bool))) (z6 : (List Int) × (List Int) × Int) : Option (((List Int) × (List Int) × Int) ⊕ (Bool)) :=
let v7 : Int := (z6.1.length : Int)
let v8 : Bool := decide (z6.2.2 < v7)
bif v8 then
if 0 ≤ z6.2.2 ∧ z6.2.2 < (z6.1.length : Int) then
let v9 : Int := z6.1.getD z6.2.2.toNat (0 : Int)
if 0 ≤ z6.2.2 ∧ z6.2.2 < (z6.2.1.length : Int) then
let v10 : Int := z6.2.1.getD z6.2.2.toNat (0 : Int)
let v11 : Bool := !decide (v9 = v10)
bif v11 then
some (.inr false)
else
let v12 : Int := IntKind.wrap .i64 (z6.2.2 + (1 : Int))
self (z6.1, z6.2.1, v12)
else none
else none
else
some (.inl (z6.1, z6.2.1, z6.2.2))
def r11 (lp0 : ((List Int) × (List Int) × Int) → Option (((List Int) × (List Int) × Int) ⊕ (Bool))) (a0 : (List Int)) (a1 : (List Int)) : Option (Bool) :=
let v1 : Int := (a0.length : Int)
let v2 : Int := (a1.length : Int)
let v3 : Bool := !decide (v1 = v2)
bif v3 then
some false
else
Option.bind (lp0 (a0, a1, (0 : Int))) fun s4 => onSum s4 (fun y5 =>
some true) (fun o13 => some o13)
-- tatting/walk.Room
def r12 (f10 : Int → Int → Option ((List Int))) (f30 : Int → Option (Bool)) (f31 : Int → Option (Int)) (a0 : Int) (a1 : Int) (a2 : Int) : Option (Int) :=
Option.bind (f30 a1) fun y1 =>
let v2 : Bool := !y1
bif v2 then
some (0 : Int)
else
Option.bind (f10 a0 a2) fun y3 =>
let v4 : Int := (y3.length : Int)
let v5 : Bool := decide (v4 = (0 : Int))
bif v5 then
some (0 : Int)
else
let v6 : Int := (y3.length : Int)
let v7 : Int := if a0 < a2 then a0 else a2
let v8 : Int := IntKind.wrap .i64 (v6 + v7)
Option.bind (f31 a1) fun y9 =>
let v10 : Int := IntKind.wrap .i64 (v8 * y9)
some v10
-- tatting/walk.Root
def F13_0 (self : (Int × Int) → Option ((Int × Int) ⊕ (Int))) (z4 : Int × Int) : Option ((Int × Int) ⊕ (Int)) :=
let v5 : Int := IntKind.wrap .i64 (z4.2 * z4.2)
let v6 : Bool := decide (v5 < z4.1)
bif v6 then
let v7 : Int := IntKind.wrap .i64 (z4.2 + (1 : Int))
self (z4.1, v7)
else
some (.inl (z4.1, z4.2))
def r13 (lp0 : (Int × Int) → Option ((Int × Int) ⊕ (Int))) (a0 : Int) : Option (Int) :=
let v1 : Int := if (1048576 : Int) < a0 then (1048576 : Int) else a0
Option.bind (lp0 (v1, (1 : Int))) fun s2 => onSum s2 (fun y3 =>
some y3.2) (fun o8 => some o8)
-- tatting/tattingref1.Few
def F14_0 (self : ((List Int) × Int × Int × (List Int)) → Option (((List Int) × Int × Int × (List Int)) ⊕ ((List Int)))) (z3 : (List Int) × Int × Int × (List Int)) : Option (((List Int) × Int × Int × (List Int)) ⊕ ((List Int))) :=
let v4 : Int := (z3.1.length : Int)
let v5 : Bool := decide (z3.2.2.1 < v4)
bif v5 then
if 0 ≤ z3.2.2.1 ∧ z3.2.2.1 < (z3.1.length : Int) then
let v6 : Int := z3.1.getD z3.2.2.1.toNat (0 : Int)
if z3.2.1 = 0 then none else
let v7 : Int := v6.tmod z3.2.1
let v8 : Bool := decide (v7 < (0 : Int))
bif v8 then
let v9 : Int := IntKind.wrap .i64 (v7 + z3.2.1)
let v10 : (List Int) := ([v9] : List Int)
if (z3.2.2.2.length + v10.length) * 8 ≤ 140737488355328 ∧ z3.2.2.2.length + v10.length ≤ 140737488355328 then
let v11 : (List Int) := z3.2.2.2 ++ v10
let v12 : Int := IntKind.wrap .i64 (z3.2.2.1 + (1 : Int))
self (z3.1, z3.2.1, v12, v11)
else none
else
let v13 : (List Int) := ([v7] : List Int)
if (z3.2.2.2.length + v13.length) * 8 ≤ 140737488355328 ∧ z3.2.2.2.length + v13.length ≤ 140737488355328 then
let v14 : (List Int) := z3.2.2.2 ++ v13
let v15 : Int := IntKind.wrap .i64 (z3.2.2.1 + (1 : Int))
self (z3.1, z3.2.1, v15, v14)
else none
else none
else
some (.inl (z3.1, z3.2.1, z3.2.2.1, z3.2.2.2))
def r14 (lp0 : ((List Int) × Int × Int × (List Int)) → Option (((List Int) × Int × Int × (List Int)) ⊕ ((List Int)))) (a0 : (List Int)) (a1 : Int) : Option ((List Int)) :=
Option.bind (lp0 (a0, a1, (0 : Int), ([] : List Int))) fun s1 => onSum s1 (fun y2 =>
some y2.2.2.2) (fun o16 => some o16)
-- tatting/tattingref1.SamePairs
def F15_0 (self : ((List (Int × Int)) × (List (Int × Int)) × Int) → Option (((List (Int × Int)) × (List (Int × Int)) × Int) ⊕ (Bool))) (z6 : (List (Int × Int)) × (List (Int × Int)) × Int) : Option (((List (Int × Int)) × (List (Int × Int)) × Int) ⊕ (Bool)) :=
let v7 : Int := (z6.1.length : Int)
let v8 : Bool := decide (z6.2.2 < v7)
bif v8 then
if 0 ≤ z6.2.2 ∧ z6.2.2 < (z6.1.length : Int) then
let v9 : (Int × Int) := z6.1.getD z6.2.2.toNat ((0 : Int), (0 : Int))
if 0 ≤ z6.2.2 ∧ z6.2.2 < (z6.2.1.length : Int) then
let v10 : (Int × Int) := z6.2.1.getD z6.2.2.toNat ((0 : Int), (0 : Int))
let v11 : Bool := !((eqInt v9.1 v10.1 && eqInt v9.2 v10.2))
bif v11 then
some (.inr false)
else
let v12 : Int := IntKind.wrap .i64 (z6.2.2 + (1 : Int))
self (z6.1, z6.2.1, v12)
else none
else none
else
some (.inl (z6.1, z6.2.1, z6.2.2))
def r15 (lp0 : ((List (Int × Int)) × (List (Int × Int)) × Int) → Option (((List (Int × Int)) × (List (Int × Int)) × Int) ⊕ (Bool))) (a0 : (List (Int × Int))) (a1 : (List (Int × Int))) : Option (Bool) :=
let v1 : Int := (a0.length : Int)
let v2 : Int := (a1.length : Int)
let v3 : Bool := !decide (v1 = v2)
bif v3 then
some false
else
Option.bind (lp0 (a0, a1, (0 : Int))) fun s4 => onSum s4 (fun y5 =>
some true) (fun o13 => some o13)
-- tatting/tattingref20.Way
def F16_0 (f32 : (List Int) → (List Int) → Option ((List (List Int)))) (self : ((List Int) × (List Int) × (List (List Int)) × Int × Int × (List (Int × Int))) → Option (((List Int) × (List Int) × (List (List Int)) × Int × Int × (List (Int × Int))) ⊕ ((List (Int × Int))))) (z6 : (List Int) × (List Int) × (List (List Int)) × Int × Int × (List (Int × Int))) : Option (((List Int) × (List Int) × (List (List Int)) × Int × Int × (List (Int × Int))) ⊕ ((List (Int × Int)))) :=
let v7 : Bool := decide (z6.2.2.2.1 > (0 : Int))
bif v7 == true then
let v8 : Bool := decide (z6.2.2.2.2.1 > (0 : Int))
bif v8 then
if 0 ≤ z6.2.2.2.1 ∧ z6.2.2.2.1 < (z6.2.2.1.length : Int) then
let v9 : (List Int) := z6.2.2.1.getD z6.2.2.2.1.toNat ([] : List Int)
if 0 ≤ z6.2.2.2.2.1 ∧ z6.2.2.2.2.1 < (v9.length : Int) then
let v10 : Int := v9.getD z6.2.2.2.2.1.toNat (0 : Int)
if 0 ≤ z6.2.2.2.1 ∧ z6.2.2.2.1 < (z6.2.2.1.length : Int) then
let v11 : (List Int) := z6.2.2.1.getD z6.2.2.2.1.toNat ([] : List Int)
let v12 : Int := IntKind.wrap .i64 (z6.2.2.2.2.1 - (1 : Int))
if 0 ≤ v12 ∧ v12 < (v11.length : Int) then
let v13 : Int := v11.getD v12.toNat (0 : Int)
let v14 : Bool := decide (v10 = v13)
bif v14 then
let v15 : Int := IntKind.wrap .i64 (z6.2.2.2.2.1 - (1 : Int))
self (z6.1, z6.2.1, z6.2.2.1, z6.2.2.2.1, v15, z6.2.2.2.2.2)
else
let v16 : Int := IntKind.wrap .i64 (z6.2.2.2.1 - (1 : Int))
if 0 ≤ v16 ∧ v16 < (z6.1.length : Int) then
let v17 : Int := z6.1.getD v16.toNat (0 : Int)
let v18 : Int := IntKind.wrap .i64 (z6.2.2.2.2.1 - (1 : Int))
if 0 ≤ v18 ∧ v18 < (z6.2.1.length : Int) then
let v19 : Int := z6.2.1.getD v18.toNat (0 : Int)
let v20 : Bool := decide (v17 = v19)
bif v20 then
let v21 : Int := IntKind.wrap .i64 (z6.2.2.2.1 - (1 : Int))
let v22 : Int := IntKind.wrap .i64 (z6.2.2.2.2.1 - (1 : Int))
let v23 : (Int × Int) := (v21, v22)
let v24 : (List (Int × Int)) := ([v23] : List (Int × Int))
if (z6.2.2.2.2.2.length + v24.length) * 16 ≤ 140737488355328 ∧ z6.2.2.2.2.2.length + v24.length ≤ 140737488355328 then
let v25 : (List (Int × Int)) := z6.2.2.2.2.2 ++ v24
self (z6.1, z6.2.1, z6.2.2.1, v21, v22, v25)
else none
else
let v26 : Int := IntKind.wrap .i64 (z6.2.2.2.1 - (1 : Int))
self (z6.1, z6.2.1, z6.2.2.1, v26, z6.2.2.2.2.1, z6.2.2.2.2.2)
else none
else none
else none
else none
else none
else none
else
some (.inl (z6.1, z6.2.1, z6.2.2.1, z6.2.2.2.1, z6.2.2.2.2.1, z6.2.2.2.2.2))
else
some (.inl (z6.1, z6.2.1, z6.2.2.1, z6.2.2.2.1, z6.2.2.2.2.1, z6.2.2.2.2.2))
def F16_1 (f32 : (List Int) → (List Int) → Option ((List (List Int)))) (self : (Int × (List (Int × Int)) × (List (Int × Int))) → Option ((Int × (List (Int × Int)) × (List (Int × Int))) ⊕ ((List (Int × Int))))) (z32 : Int × (List (Int × Int)) × (List (Int × Int))) : Option ((Int × (List (Int × Int)) × (List (Int × Int))) ⊕ ((List (Int × Int)))) :=
let v33 : Bool := decide (z32.1 ≥ (0 : Int))
bif v33 then
if 0 ≤ z32.1 ∧ z32.1 < (z32.2.1.length : Int) then
let v34 : (Int × Int) := (z32.2.1.getD z32.1.toNat ((0 : Int), (0 : Int)))
let v35 : (List (Int × Int)) := ([v34] : List (Int × Int))
if (z32.2.2.length + v35.length) * 16 ≤ 140737488355328 ∧ z32.2.2.length + v35.length ≤ 140737488355328 then
let v36 : (List (Int × Int)) := z32.2.2 ++ v35
let v37 : Int := IntKind.wrap .i64 (z32.1 - (1 : Int))
self (v37, z32.2.1, v36)
else none
else none
else
some (.inl (z32.1, z32.2.1, z32.2.2))
def r16 (f32 : (List Int) → (List Int) → Option ((List (List Int)))) (lp0 : ((List Int) × (List Int) × (List (List Int)) × Int × Int × (List (Int × Int))) → Option (((List Int) × (List Int) × (List (List Int)) × Int × Int × (List (Int × Int))) ⊕ ((List (Int × Int))))) (lp1 : (Int × (List (Int × Int)) × (List (Int × Int))) → Option ((Int × (List (Int × Int)) × (List (Int × Int))) ⊕ ((List (Int × Int))))) (a0 : (List Int)) (a1 : (List Int)) : Option ((List (Int × Int))) :=
Option.bind (f32 a0 a1) fun y1 =>
let v2 : Int := (a0.length : Int)
let v3 : Int := (a1.length : Int)
Option.bind (lp0 (a0, a1, y1, v2, v3, ([] : List (Int × Int)))) fun s4 => onSum s4 (fun y5 =>
let v28 : Int := (y5.2.2.2.2.2.length : Int)
let v29 : Int := IntKind.wrap .i64 (v28 - (1 : Int))
Option.bind (lp1 (v29, y5.2.2.2.2.2, ([] : List (Int × Int)))) fun s30 => onSum s30 (fun y31 =>
some y31.2.2) (fun o38 => some o38)) (fun o27 => some o27)
-- tatting/tattingref20.Steps
def r17 (f33 : Int → Option (Int)) (a0 : Int) (a1 : Int) : Option (Int) :=
let v1 : Bool := decide (a0 < (0 : Int))
bif v1 == false then
let v2 : Bool := decide (a1 < (0 : Int))
bif v2 == false then
let v3 : Bool := decide (a0 > (1048576 : Int))
bif v3 == false then
let v4 : Bool := decide (a1 > (1048576 : Int))
bif v4 then
some (0 : Int)
else
Option.bind (f33 a1) fun y5 =>
let v6 : Int := IntKind.wrap .i64 (a0 * y5)
some v6
else
some (0 : Int)
else
some (0 : Int)
else
some (0 : Int)
-- tatting/vec.Ones
def r24 (f38 : (List Int) → Int → Option ((List Int))) (a0 : Int) : Option ((List Int)) :=
Option.bind (f38 ([] : List Int) a0) fun y1 =>
some y1
-- tatting/walk.row
def r25 (f39 : (List Int) → (List Int) → Int → Option ((List Int))) (f40 : (List Int) → (List Int) → Int → Option ((List Int))) (a0 : Int) (a1 : (List Int)) (a2 : (List Int)) (a3 : Int) : Option ((List Int)) :=
let v1 : Bool := decide (a0 = (1 : Int))
bif v1 then
Option.bind (f39 a1 a2 a3) fun y2 =>
some y2
else
Option.bind (f40 a1 a2 a3) fun y3 =>
some y3
-- tatting/vec.Get
def r27 (f42 : (List Int) → Int → Option (Bool)) (a0 : (List Int)) (a1 : Int) : Option (Bool) :=
Option.bind (f42 a0 a1) fun y1 =>
bif y1 == true then
if (64 : Int) = 0 then none else
let v2 : Int := IntKind.wrap .i64 (a1.tdiv (64 : Int))
if 0 ≤ v2 ∧ v2 < (a0.length : Int) then
let v3 : Int := a0.getD v2.toNat (0 : Int)
if (64 : Int) = 0 then none else
let v4 : Int := a1.tmod (64 : Int)
let v5 : Int := IntKind.wrap .u64 v4
if v5 < 0 then none else
let v6 : Int := v3.fdiv (2 ^ (min v5.toNat (IntKind.bits .u64)))
let v7 : Int := bitop .and .u64 v6 (1 : Int)
let v8 : Bool := decide (v7 = (1 : Int))
some v8
else none
else
some false
-- slices.Reverse[[]tatting/api.Pair,tatting/api.Pair]
def F28_0 (self : (Int × Int × (List (Int × Int))) → Option ((Int × Int × (List (Int × Int))) ⊕ ((List (Int × Int))))) (z5 : Int × Int × (List (Int × Int))) : Option ((Int × Int × (List (Int × Int))) ⊕ ((List (Int × Int)))) :=
let v6 : Bool := decide (z5.1 < z5.2.1)
bif v6 then
if 0 ≤ z5.2.1 ∧ z5.2.1 < (z5.2.2.length : Int) then
let v7 : (Int × Int) := (z5.2.2.getD z5.2.1.toNat ((0 : Int), (0 : Int)))
if 0 ≤ z5.1 ∧ z5.1 < (z5.2.2.length : Int) then
let v8 : (Int × Int) := (z5.2.2.getD z5.1.toNat ((0 : Int), (0 : Int)))
if 0 ≤ z5.1 ∧ z5.1 < (z5.2.2.length : Int) then
let v9 : (List (Int × Int)) := z5.2.2.set z5.1.toNat v7
if 0 ≤ z5.2.1 ∧ z5.2.1 < (v9.length : Int) then
let v10 : (List (Int × Int)) := v9.set z5.2.1.toNat v8
let v11 : Int := IntKind.wrap .i64 (z5.1 + (1 : Int))
let v12 : Int := IntKind.wrap .i64 (z5.2.1 - (1 : Int))
self (v11, v12, v10)
else none
else none
else none
else none
else
some (.inl (z5.1, z5.2.1, z5.2.2))
def r28 (lp0 : (Int × Int × (List (Int × Int))) → Option ((Int × Int × (List (Int × Int))) ⊕ ((List (Int × Int))))) (a0 : (List (Int × Int))) : Option ((List (Int × Int))) :=
let v1 : Int := (a0.length : Int)
let v2 : Int := IntKind.wrap .i64 (v1 - (1 : Int))
Option.bind (lp0 ((0 : Int), v2, a0)) fun s3 => onSum s3 (fun y4 =>
some y4.2.2) (fun o13 => some o13)
-- tatting/hyyro.Steps
def r29 (f31 : Int → Option (Int)) (f43 : Int → Option (Bool)) (a0 : Int) (a1 : Int) : Option (Int) :=
Option.bind (f43 a0) fun y1 =>
let v2 : Bool := !y1
bif v2 == false then
Option.bind (f43 a1) fun y3 =>
let v4 : Bool := !y3
bif v4 then
some (0 : Int)
else
Option.bind (f31 a1) fun y5 =>
let v6 : Int := IntKind.wrap .i64 (a0 * y5)
some v6
else
some (0 : Int)
-- tatting/walk.is
def r30 (a0 : Int) : Option (Bool) :=
let v1 : Bool := decide (a0 ≥ (0 : Int))
bif v1 == true then
let v2 : Bool := decide (a0 ≤ (1048576 : Int))
some v2
else
some false
-- tatting/vec.Words
def r31 (f44 : Int → Option (Int)) (a0 : Int) : Option (Int) :=
Option.bind (f44 a0) fun y1 =>
let v2 : Int := IntKind.wrap .i64 (y1 + (64 : Int))
let v3 : Int := IntKind.wrap .i64 (v2 - (1 : Int))
if (64 : Int) = 0 then none else
let v4 : Int := IntKind.wrap .i64 (v3.tdiv (64 : Int))
some v4
-- tatting/tattingref5.Words
def r33 (f46 : Int → Option (Int)) (a0 : Int) : Option (Int) :=
Option.bind (f46 a0) fun y1 =>
let v2 : Int := IntKind.wrap .i64 (y1 + (63 : Int))
if (64 : Int) = 0 then none else
let v3 : Int := IntKind.wrap .i64 (v2.tdiv (64 : Int))
some v3
-- tatting/vec.Not
def F38_0 (f31 : Int → Option (Int)) (f49 : (List Int) → Int → Option (Int)) (f50 : Int → Int → Option (Int)) (self : ((List Int) × Int × Int × Int × (List Int)) → Option (((List Int) × Int × Int × Int × (List Int)) ⊕ ((List Int)))) (z6 : (List Int) × Int × Int × Int × (List Int)) : Option (((List Int) × Int × Int × Int × (List Int)) ⊕ ((List Int))) :=
let v7 : Bool := decide (z6.2.2.2.1 < z6.2.2.1)
bif v7 then
Option.bind (f49 z6.1 z6.2.2.2.1) fun y8 =>
let v9 : Int := bitop .xor .u64 (IntKind.max .u64) y8
Option.bind (f50 z6.2.1 z6.2.2.2.1) fun y10 =>
let v11 : Int := bitop .and .u64 v9 y10
if 0 ≤ z6.2.2.2.1 ∧ z6.2.2.2.1 < (z6.2.2.2.2.length : Int) then
let v12 : (List Int) := z6.2.2.2.2.set z6.2.2.2.1.toNat v11
let v13 : Int := IntKind.wrap .i64 (z6.2.2.2.1 + (1 : Int))
self (z6.1, z6.2.1, z6.2.2.1, v13, v12)
else none
else
some (.inl (z6.1, z6.2.1, z6.2.2.1, z6.2.2.2.1, z6.2.2.2.2))
def r38 (f31 : Int → Option (Int)) (f49 : (List Int) → Int → Option (Int)) (f50 : Int → Int → Option (Int)) (lp0 : ((List Int) × Int × Int × Int × (List Int)) → Option (((List Int) × Int × Int × Int × (List Int)) ⊕ ((List Int)))) (a0 : (List Int)) (a1 : Int) : Option ((List Int)) :=
Option.bind (f31 a1) fun y1 =>
if 0 ≤ y1 ∧ y1 ≤ y1 ∧ y1 * (8 : Int) ≤ 140737488355328 ∧ y1 ≤ 140737488355328 then
let v2 : (List Int) := List.replicate y1.toNat (0 : Int)
let v3 : Int := (v2.length : Int)
Option.bind (lp0 (a0, a1, v3, (0 : Int), v2)) fun s4 => onSum s4 (fun y5 =>
some y5.2.2.2.2) (fun o14 => some o14)
else none
-- tatting/croch.Row
def r39 (f38 : (List Int) → Int → Option ((List Int))) (f41 : (List Int) → Int → Option ((List Int))) (f51 : (List Int) → (List Int) → Option ((List Int))) (f52 : (List Int) → (List Int) → Option ((List Int))) (f53 : (List Int) → (List Int) → Option ((List Int))) (a0 : (List Int)) (a1 : (List Int)) (a2 : Int) : Option ((List Int)) :=
Option.bind (f41 a0 a2) fun y1 =>
Option.bind (f41 a1 a2) fun y2 =>
Option.bind (f53 y1 y2) fun y3 =>
Option.bind (f52 y1 y3) fun y4 =>
Option.bind (f38 y2 a2) fun y5 =>
Option.bind (f53 y1 y5) fun y6 =>
Option.bind (f51 y4 y6) fun y7 =>
Option.bind (f41 y7 a2) fun y8 =>
some y8
-- tatting/hyyro.Row
def r40 (f41 : (List Int) → Int → Option ((List Int))) (f51 : (List Int) → (List Int) → Option ((List Int))) (f52 : (List Int) → (List Int) → Option ((List Int))) (f53 : (List Int) → (List Int) → Option ((List Int))) (f54 : (List Int) → (List Int) → Option ((List Int))) (a0 : (List Int)) (a1 : (List Int)) (a2 : Int) : Option ((List Int)) :=
Option.bind (f41 a0 a2) fun y1 =>
Option.bind (f41 a1 a2) fun y2 =>
Option.bind (f53 y1 y2) fun y3 =>
Option.bind (f52 y1 y3) fun y4 =>
Option.bind (f54 y1 y3) fun y5 =>
Option.bind (f51 y4 y5) fun y6 =>
Option.bind (f41 y6 a2) fun y7 =>
some y7
-- tatting/vec.Fit
def F41_0 (f31 : Int → Option (Int)) (f49 : (List Int) → Int → Option (Int)) (f50 : Int → Int → Option (Int)) (self : ((List Int) × Int × Int × Int × (List Int)) → Option (((List Int) × Int × Int × Int × (List Int)) ⊕ ((List Int)))) (z6 : (List Int) × Int × Int × Int × (List Int)) : Option (((List Int) × Int × Int × Int × (List Int)) ⊕ ((List Int))) :=
let v7 : Bool := decide (z6.2.2.2.1 < z6.2.2.1)
bif v7 then
Option.bind (f49 z6.1 z6.2.2.2.1) fun y8 =>
Option.bind (f50 z6.2.1 z6.2.2.2.1) fun y9 =>
let v10 : Int := bitop .and .u64 y8 y9
if 0 ≤ z6.2.2.2.1 ∧ z6.2.2.2.1 < (z6.2.2.2.2.length : Int) then
let v11 : (List Int) := z6.2.2.2.2.set z6.2.2.2.1.toNat v10
let v12 : Int := IntKind.wrap .i64 (z6.2.2.2.1 + (1 : Int))
self (z6.1, z6.2.1, z6.2.2.1, v12, v11)
else none
else
some (.inl (z6.1, z6.2.1, z6.2.2.1, z6.2.2.2.1, z6.2.2.2.2))
def r41 (f31 : Int → Option (Int)) (f49 : (List Int) → Int → Option (Int)) (f50 : Int → Int → Option (Int)) (lp0 : ((List Int) × Int × Int × Int × (List Int)) → Option (((List Int) × Int × Int × Int × (List Int)) ⊕ ((List Int)))) (a0 : (List Int)) (a1 : Int) : Option ((List Int)) :=
Option.bind (f31 a1) fun y1 =>
if 0 ≤ y1 ∧ y1 ≤ y1 ∧ y1 * (8 : Int) ≤ 140737488355328 ∧ y1 ≤ 140737488355328 then
let v2 : (List Int) := List.replicate y1.toNat (0 : Int)
let v3 : Int := (v2.length : Int)
Option.bind (lp0 (a0, a1, v3, (0 : Int), v2)) fun s4 => onSum s4 (fun y5 =>
some y5.2.2.2.2) (fun o13 => some o13)
else none
-- tatting/vec.inside
def r42 (a0 : (List Int)) (a1 : Int) : Option (Bool) :=
let v1 : Bool := decide (a1 ≥ (0 : Int))
bif v1 == true then
if (64 : Int) = 0 then none else
let v2 : Int := IntKind.wrap .i64 (a1.tdiv (64 : Int))
let v3 : Int := (a0.length : Int)
let v4 : Bool := decide (v2 < v3)
some v4
else
some false
-- tatting/hyyro.is
def r43 (a0 : Int) : Option (Bool) :=
let v1 : Bool := decide (a0 ≥ (0 : Int))
bif v1 == true then
let v2 : Bool := decide (a0 ≤ (1048576 : Int))
some v2
else
some false
-- tatting/vec.width
def r44 (a0 : Int) : Option (Int) :=
let v1 : Int := if (0 : Int) > a0 then (0 : Int) else a0
let v2 : Int := if (1048576 : Int) < v1 then (1048576 : Int) else v1
some v2
-- tatting/tattingref5.Width
def r46 (a0 : Int) : Option (Int) :=
let v1 : Bool := decide (a0 < (0 : Int))
bif v1 then
some (0 : Int)
else
let v2 : Bool := decide (a0 > (1048576 : Int))
bif v2 then
some (1048576 : Int)
else
some a0
-- tatting/vec.at
def r49 (a0 : (List Int)) (a1 : Int) : Option (Int) :=
let v1 : Int := (a0.length : Int)
let v2 : Bool := decide (a1 < v1)
bif v2 then
if 0 ≤ a1 ∧ a1 < (a0.length : Int) then
let v3 : Int := a0.getD a1.toNat (0 : Int)
some v3
else none
else
some (0 : Int)
-- tatting/vec.mask
def r50 (f44 : Int → Option (Int)) (a0 : Int) (a1 : Int) : Option (Int) :=
Option.bind (f44 a0) fun y1 =>
let v2 : Int := IntKind.wrap .i64 ((64 : Int) * a1)
let v3 : Int := IntKind.wrap .i64 (y1 - v2)
let v4 : Bool := decide (v3 ≥ (64 : Int))
bif v4 then
some (18446744073709551615 : Int)
else
let v5 : Int := IntKind.wrap .u64 v3
if v5 < 0 then none else
let v6 : Int := IntKind.wrap .u64 ((1 : Int) * 2 ^ (min v5.toNat (IntKind.bits .u64)))
let v7 : Int := IntKind.wrap .u64 (v6 - (1 : Int))
some v7
-- tatting/vec.Or
def F51_0 (f49 : (List Int) → Int → Option (Int)) (self : ((List Int) × (List Int) × Int × Int × (List Int)) → Option (((List Int) × (List Int) × Int × Int × (List Int)) ⊕ ((List Int)))) (z8 : (List Int) × (List Int) × Int × Int × (List Int)) : Option (((List Int) × (List Int) × Int × Int × (List Int)) ⊕ ((List Int))) :=
let v9 : Bool := decide (z8.2.2.2.1 < z8.2.2.1)
bif v9 then
Option.bind (f49 z8.1 z8.2.2.2.1) fun y10 =>
Option.bind (f49 z8.2.1 z8.2.2.2.1) fun y11 =>
let v12 : Int := bitop .or .u64 y10 y11
if 0 ≤ z8.2.2.2.1 ∧ z8.2.2.2.1 < (z8.2.2.2.2.length : Int) then
let v13 : (List Int) := z8.2.2.2.2.set z8.2.2.2.1.toNat v12
let v14 : Int := IntKind.wrap .i64 (z8.2.2.2.1 + (1 : Int))
self (z8.1, z8.2.1, z8.2.2.1, v14, v13)
else none
else
some (.inl (z8.1, z8.2.1, z8.2.2.1, z8.2.2.2.1, z8.2.2.2.2))
def r51 (f49 : (List Int) → Int → Option (Int)) (lp0 : ((List Int) × (List Int) × Int × Int × (List Int)) → Option (((List Int) × (List Int) × Int × Int × (List Int)) ⊕ ((List Int)))) (a0 : (List Int)) (a1 : (List Int)) : Option ((List Int)) :=
let v1 : Int := (a0.length : Int)
let v2 : Int := (a1.length : Int)
let v3 : Int := if v2 > v1 then v2 else v1
if 0 ≤ v3 ∧ v3 ≤ v3 ∧ v3 * (8 : Int) ≤ 140737488355328 ∧ v3 ≤ 140737488355328 then
let v4 : (List Int) := List.replicate v3.toNat (0 : Int)
let v5 : Int := (v4.length : Int)
Option.bind (lp0 (a0, a1, v5, (0 : Int), v4)) fun s6 => onSum s6 (fun y7 =>
some y7.2.2.2.2) (fun o15 => some o15)
else none
-- tatting/vec.Add
def F52_0 (f49 : (List Int) → Int → Option (Int)) (f66 : Int → Int → Int → Option (Int × Int)) (self : ((List Int) × (List Int) × Int × Int × Int × (List Int)) → Option (((List Int) × (List Int) × Int × Int × Int × (List Int)) ⊕ ((List Int)))) (z8 : (List Int) × (List Int) × Int × Int × Int × (List Int)) : Option (((List Int) × (List Int) × Int × Int × Int × (List Int)) ⊕ ((List Int))) :=
let v9 : Bool := decide (z8.2.2.2.2.1 < z8.2.2.2.1)
bif v9 then
Option.bind (f49 z8.1 z8.2.2.2.2.1) fun y10 =>
Option.bind (f49 z8.2.1 z8.2.2.2.2.1) fun y11 =>
Option.bind (f66 y10 y11 z8.2.2.1) fun y12 =>
if 0 ≤ z8.2.2.2.2.1 ∧ z8.2.2.2.2.1 < (z8.2.2.2.2.2.length : Int) then
let v13 : (List Int) := z8.2.2.2.2.2.set z8.2.2.2.2.1.toNat y12.1
let v14 : Int := IntKind.wrap .i64 (z8.2.2.2.2.1 + (1 : Int))
self (z8.1, z8.2.1, y12.2, z8.2.2.2.1, v14, v13)
else none
else
some (.inl (z8.1, z8.2.1, z8.2.2.1, z8.2.2.2.1, z8.2.2.2.2.1, z8.2.2.2.2.2))
def r52 (f49 : (List Int) → Int → Option (Int)) (f66 : Int → Int → Int → Option (Int × Int)) (lp0 : ((List Int) × (List Int) × Int × Int × Int × (List Int)) → Option (((List Int) × (List Int) × Int × Int × Int × (List Int)) ⊕ ((List Int)))) (a0 : (List Int)) (a1 : (List Int)) : Option ((List Int)) :=
let v1 : Int := (a0.length : Int)
let v2 : Int := (a1.length : Int)
let v3 : Int := if v2 > v1 then v2 else v1
if 0 ≤ v3 ∧ v3 ≤ v3 ∧ v3 * (8 : Int) ≤ 140737488355328 ∧ v3 ≤ 140737488355328 then
let v4 : (List Int) := List.replicate v3.toNat (0 : Int)
let v5 : Int := (v4.length : Int)
Option.bind (lp0 (a0, a1, (0 : Int), v5, (0 : Int), v4)) fun s6 => onSum s6 (fun y7 =>
some y7.2.2.2.2.2) (fun o15 => some o15)
else none
-- tatting/vec.And
def F53_0 (f49 : (List Int) → Int → Option (Int)) (self : ((List Int) × (List Int) × Int × Int × (List Int)) → Option (((List Int) × (List Int) × Int × Int × (List Int)) ⊕ ((List Int)))) (z8 : (List Int) × (List Int) × Int × Int × (List Int)) : Option (((List Int) × (List Int) × Int × Int × (List Int)) ⊕ ((List Int))) :=
let v9 : Bool := decide (z8.2.2.2.1 < z8.2.2.1)
bif v9 then
Option.bind (f49 z8.1 z8.2.2.2.1) fun y10 =>
Option.bind (f49 z8.2.1 z8.2.2.2.1) fun y11 =>
let v12 : Int := bitop .and .u64 y10 y11
if 0 ≤ z8.2.2.2.1 ∧ z8.2.2.2.1 < (z8.2.2.2.2.length : Int) then
let v13 : (List Int) := z8.2.2.2.2.set z8.2.2.2.1.toNat v12
let v14 : Int := IntKind.wrap .i64 (z8.2.2.2.1 + (1 : Int))
self (z8.1, z8.2.1, z8.2.2.1, v14, v13)
else none
else
some (.inl (z8.1, z8.2.1, z8.2.2.1, z8.2.2.2.1, z8.2.2.2.2))
def r53 (f49 : (List Int) → Int → Option (Int)) (lp0 : ((List Int) × (List Int) × Int × Int × (List Int)) → Option (((List Int) × (List Int) × Int × Int × (List Int)) ⊕ ((List Int)))) (a0 : (List Int)) (a1 : (List Int)) : Option ((List Int)) :=
let v1 : Int := (a0.length : Int)
let v2 : Int := (a1.length : Int)
let v3 : Int := if v2 > v1 then v2 else v1
if 0 ≤ v3 ∧ v3 ≤ v3 ∧ v3 * (8 : Int) ≤ 140737488355328 ∧ v3 ≤ 140737488355328 then
let v4 : (List Int) := List.replicate v3.toNat (0 : Int)
let v5 : Int := (v4.length : Int)
Option.bind (lp0 (a0, a1, v5, (0 : Int), v4)) fun s6 => onSum s6 (fun y7 =>
some y7.2.2.2.2) (fun o15 => some o15)
else none
-- tatting/vec.Sub
def F54_0 (f49 : (List Int) → Int → Option (Int)) (f67 : Int → Int → Int → Option (Int × Int)) (self : ((List Int) × (List Int) × Int × Int × Int × (List Int)) → Option (((List Int) × (List Int) × Int × Int × Int × (List Int)) ⊕ ((List Int)))) (z8 : (List Int) × (List Int) × Int × Int × Int × (List Int)) : Option (((List Int) × (List Int) × Int × Int × Int × (List Int)) ⊕ ((List Int))) :=
let v9 : Bool := decide (z8.2.2.2.2.1 < z8.2.2.2.1)
bif v9 then
Option.bind (f49 z8.1 z8.2.2.2.2.1) fun y10 =>
Option.bind (f49 z8.2.1 z8.2.2.2.2.1) fun y11 =>
Option.bind (f67 y10 y11 z8.2.2.1) fun y12 =>
if 0 ≤ z8.2.2.2.2.1 ∧ z8.2.2.2.2.1 < (z8.2.2.2.2.2.length : Int) then
let v13 : (List Int) := z8.2.2.2.2.2.set z8.2.2.2.2.1.toNat y12.1
let v14 : Int := IntKind.wrap .i64 (z8.2.2.2.2.1 + (1 : Int))
self (z8.1, z8.2.1, y12.2, z8.2.2.2.1, v14, v13)
else none
else
some (.inl (z8.1, z8.2.1, z8.2.2.1, z8.2.2.2.1, z8.2.2.2.2.1, z8.2.2.2.2.2))
def r54 (f49 : (List Int) → Int → Option (Int)) (f67 : Int → Int → Int → Option (Int × Int)) (lp0 : ((List Int) × (List Int) × Int × Int × Int × (List Int)) → Option (((List Int) × (List Int) × Int × Int × Int × (List Int)) ⊕ ((List Int)))) (a0 : (List Int)) (a1 : (List Int)) : Option ((List Int)) :=
let v1 : Int := (a0.length : Int)
let v2 : Int := (a1.length : Int)
let v3 : Int := if v2 > v1 then v2 else v1
if 0 ≤ v3 ∧ v3 ≤ v3 ∧ v3 * (8 : Int) ≤ 140737488355328 ∧ v3 ≤ 140737488355328 then
let v4 : (List Int) := List.replicate v3.toNat (0 : Int)
let v5 : Int := (v4.length : Int)
Option.bind (lp0 (a0, a1, (0 : Int), v5, (0 : Int), v4)) fun s6 => onSum s6 (fun y7 =>
some y7.2.2.2.2.2) (fun o15 => some o15)
else none
def g4 (call : CallFn E) : Int → (List Int) → (List Int) → Int → Option (Bool) := fun x0 x1 x2 x3 => call 4 (x0, x1, x2, x3)
def g8 (call : CallFn E) : Int → (List Int) → (List Int) → Int → Option ((List (Int × Int)) × Int × Int) := fun x0 x1 x2 x3 => call 8 (x0, x1, x2, x3)
def g9 (call : CallFn E) : Unit → Option (Bool) := fun _ => call 9 ()
def g10 (call : CallFn E) : Int → Int → Option ((List Int)) := fun x0 x1 => call 10 (x0, x1)
def g11 (call : CallFn E) : (List Int) → (List Int) → Option (Bool) := fun x0 x1 => call 11 (x0, x1)
def g12 (call : CallFn E) : Int → Int → Int → Option (Int) := fun x0 x1 x2 => call 12 (x0, x1, x2)
def g13 (call : CallFn E) : Int → Option (Int) := fun x0 => call 13 x0
def g14 (call : CallFn E) : (List Int) → Int → Option ((List Int)) := fun x0 x1 => call 14 (x0, x1)
def g15 (call : CallFn E) : (List (Int × Int)) → (List (Int × Int)) → Option (Bool) := fun x0 x1 => call 15 (x0, x1)
def g16 (call : CallFn E) : (List Int) → (List Int) → Option ((List (Int × Int))) := fun x0 x1 => call 16 (x0, x1)
def g17 (call : CallFn E) : Int → Int → Option (Int) := fun x0 x1 => call 17 (x0, x1)
def g23 (call : CallFn E) : (List Int) → Option ((List Int)) := fun x0 => call 23 x0
def g24 (call : CallFn E) : Int → Option ((List Int)) := fun x0 => call 24 x0
def g25 (call : CallFn E) : Int → (List Int) → (List Int) → Int → Option ((List Int)) := fun x0 x1 x2 x3 => call 25 (x0, x1, x2, x3)
def g26 (call : CallFn E) : (List Int) → Int → Option ((List Int)) := fun x0 x1 => call 26 (x0, x1)
def g27 (call : CallFn E) : (List Int) → Int → Option (Bool) := fun x0 x1 => call 27 (x0, x1)
def g28 (call : CallFn E) : (List (Int × Int)) → Option ((List (Int × Int))) := fun x0 => call 28 x0
def g29 (call : CallFn E) : Int → Int → Option (Int) := fun x0 x1 => call 29 (x0, x1)
def g30 (call : CallFn E) : Int → Option (Bool) := fun x0 => call 30 x0
def g31 (call : CallFn E) : Int → Option (Int) := fun x0 => call 31 x0
def g32 (call : CallFn E) : (List Int) → (List Int) → Option ((List (List Int))) := fun x0 x1 => call 32 (x0, x1)
def g33 (call : CallFn E) : Int → Option (Int) := fun x0 => call 33 x0
def g38 (call : CallFn E) : (List Int) → Int → Option ((List Int)) := fun x0 x1 => call 38 (x0, x1)
def g39 (call : CallFn E) : (List Int) → (List Int) → Int → Option ((List Int)) := fun x0 x1 x2 => call 39 (x0, x1, x2)
def g40 (call : CallFn E) : (List Int) → (List Int) → Int → Option ((List Int)) := fun x0 x1 x2 => call 40 (x0, x1, x2)
def g41 (call : CallFn E) : (List Int) → Int → Option ((List Int)) := fun x0 x1 => call 41 (x0, x1)
def g42 (call : CallFn E) : (List Int) → Int → Option (Bool) := fun x0 x1 => call 42 (x0, x1)
def g43 (call : CallFn E) : Int → Option (Bool) := fun x0 => call 43 x0
def g44 (call : CallFn E) : Int → Option (Int) := fun x0 => call 44 x0
def g46 (call : CallFn E) : Int → Option (Int) := fun x0 => call 46 x0
def g49 (call : CallFn E) : (List Int) → Int → Option (Int) := fun x0 x1 => call 49 (x0, x1)
def g50 (call : CallFn E) : Int → Int → Option (Int) := fun x0 x1 => call 50 (x0, x1)
def g51 (call : CallFn E) : (List Int) → (List Int) → Option ((List Int)) := fun x0 x1 => call 51 (x0, x1)
def g52 (call : CallFn E) : (List Int) → (List Int) → Option ((List Int)) := fun x0 x1 => call 52 (x0, x1)
def g53 (call : CallFn E) : (List Int) → (List Int) → Option ((List Int)) := fun x0 x1 => call 53 (x0, x1)
def g54 (call : CallFn E) : (List Int) → (List Int) → Option ((List Int)) := fun x0 x1 => call 54 (x0, x1)
def g66 (call : CallFn E) : Int → Int → Int → Option (Int × Int) := fun x0 x1 x2 => call 66 (x0, x1, x2)
def g67 (call : CallFn E) : Int → Int → Int → Option (Int × Int) := fun x0 x1 x2 => call 67 (x0, x1, x2)
noncomputable def q4 (call : CallFn E) (n : Nat) (a0 : Int) (a1 : (List Int)) (a2 : (List Int)) (a3 : Int) : Option (Bool) := runHow E call n s4 (a0, a1, a2, a3) h4
theorem rr4 (call : CallFn E) (n : Nat) (a0 : Int) (a1 : (List Int)) (a2 : (List Int)) (a3 : Int) : q4 call n a0 a1 a2 a3 = r4 (g8 call) (g9 call) (g14 call) (g15 call) (g16 call) (g17 call)  a0 a1 a2 a3 := by kernel_rfl
theorem gq4 (n : Nat) (a0 : Int) (a1 : (List Int)) (a2 : (List Int)) (a3 : Int) : g4 (evalF E (n + 1)) a0 a1 a2 a3 = q4 (evalF E n) n a0 a1 a2 a3 := by kernel_rfl
def L8_0 : LH := ⟨[0, 1, 2, 3, 11, 13, 16, 17, 18, 19, 20, 21, 22], ⟨[.dat (.int .i64), .dat (.slice (.int .i64)), .dat (.slice (.int .i64)), .dat (.int .i64), .dat (.ext 0), .ref 0, .ref 1, .dat (.int .i64), .dat (.int .i64), .dat (.int .i64), .dat (.int .i64), .ref 2, .dat (.int .i64)], [.row (.slice (.int .u64)), .row (.pair (.int .i64) (.one (.int .i64))), .row (.slice (.int .u64))]⟩, 4⟩
noncomputable def b8_0 : Code := codeAt c8 [1, 1, 1, 1, 1, 1, 1, 1, 1, 0, 1, 0, 0, 1, 0, 0, 1, 1, 0, 1, 0, 0]
noncomputable def lq8_0 (call : CallFn E) (n m : Nat) (y : Int × (List Int) × (List Int) × Int × (List Int) × Int × Int × Int × Int × Int × (List (List Int)) × (List (Int × Int)) × (List (List Int))) : Option ((Int × (List Int) × (List Int) × Int × (List Int) × Int × Int × Int × Int × Int × (List (List Int)) × (List (Int × Int)) × (List (List Int))) ⊕ ((List (Int × Int)) × Int × Int)) := loopAt (ctxOf E call n s8 Try.f8 hs8) b8_0 [0, 1, 0, 1, 1, 0, 0, 1, 0, 0, 1, 0, 1, 1, 1, 1, 1, 1, 1, 1, 1] L8_0 m y
def L8_1 : LH := ⟨[0, 1, 2, 3, 11, 12, 13, 44, 45, 46], ⟨[.dat (.int .i64), .dat (.slice (.int .i64)), .dat (.slice (.int .i64)), .dat (.int .i64), .dat (.ext 0), .dat (.slice (.int .u64)), .ref 0, .dat (.slice (.int .i64)), .dat (.int .i64), .dat (.int .i64)], [.row (.slice (.int .u64))]⟩, 0⟩
noncomputable def b8_1 : Code := codeAt c8 [1, 1, 1, 1, 1, 1, 0, 1, 0, 0]
noncomputable def lq8_1 (call : CallFn E) (n m : Nat) (y : Int × (List Int) × (List Int) × Int × (List Int) × (List Int) × (List Int) × Int × Int × (List (List Int))) : Option ((Int × (List Int) × (List Int) × Int × (List Int) × (List Int) × (List Int) × Int × Int × (List (List Int))) ⊕ ((List (Int × Int)) × Int × Int)) := loopAt (ctxOf E call n s8 Try.f8 hs8) b8_1 [0, 1, 0, 1, 1, 1, 1, 1, 1] L8_1 m y
def L8_2 : LH := ⟨[0, 1, 2, 3, 11, 13, 16, 17, 18], ⟨[.dat (.int .i64), .dat (.slice (.int .i64)), .dat (.slice (.int .i64)), .dat (.int .i64), .dat (.ext 0), .ref 0, .ref 1, .dat (.int .i64), .dat (.int .i64)], [.row (.slice (.int .u64)), .row (.pair (.int .i64) (.one (.int .i64)))]⟩, 2⟩
noncomputable def b8_2 : Code := codeAt c8 [1, 1, 1, 1, 1, 1, 1, 1, 1, 0, 1, 0, 0]
noncomputable def lq8_2 (call : CallFn E) (n m : Nat) (y : Int × (List Int) × (List Int) × Int × (List Int) × Int × Int × (List (List Int)) × (List (Int × Int))) : Option ((Int × (List Int) × (List Int) × Int × (List Int) × Int × Int × (List (List Int)) × (List (Int × Int))) ⊕ ((List (Int × Int)) × Int × Int)) := loopAt (ctxOf E call n s8 Try.f8 hs8) b8_2 [0, 1, 0, 1, 1, 1, 1, 1, 1, 1, 1, 1] L8_2 m y
def L8_3 : LH := ⟨[0, 1, 2, 3, 11, 13, 16, 17, 18, 19, 21, 23], ⟨[.dat (.int .i64), .dat (.slice (.int .i64)), .dat (.slice (.int .i64)), .dat (.int .i64), .dat (.ext 0), .ref 0, .ref 1, .dat (.int .i64), .dat (.int .i64), .dat (.int .i64), .ref 2, .dat (.int .i64)], [.row (.slice (.int .u64)), .row (.pair (.int .i64) (.one (.int .i64))), .row (.slice (.int .u64))]⟩, 6⟩
noncomputable def b8_3 : Code := codeAt c8 [1, 1, 1, 1, 1, 1, 1, 1, 1, 0, 1, 0, 0, 1, 0, 0, 1, 1, 1, 1, 0, 0]
noncomputable def lq8_3 (call : CallFn E) (n m : Nat) (y : Int × (List Int) × (List Int) × Int × (List Int) × Int × Int × Int × Int × (List (List Int)) × (List (Int × Int)) × (List (List Int))) : Option ((Int × (List Int) × (List Int) × Int × (List Int) × Int × Int × Int × Int × (List (List Int)) × (List (Int × Int)) × (List (List Int))) ⊕ ((List (Int × Int)) × Int × Int)) := loopAt (ctxOf E call n s8 Try.f8 hs8) b8_3 [0, 1, 1, 1, 1, 0, 0, 1, 0, 0, 1, 0, 1, 1, 1, 1, 1, 1, 1, 1, 1] L8_3 m y
theorem lp8_0 (call : CallFn E) (n m : Nat) (y : Int × (List Int) × (List Int) × Int × (List Int) × Int × Int × Int × Int × Int × (List (List Int)) × (List (Int × Int)) × (List (List Int))) : lq8_0 call n (m + 1) y = F8_0 (g23 call) (g24 call) (g25 call) (g26 call) (g27 call) (g28 call) (g29 call)  (lq8_0 call n m) y := by kernel_rfl
theorem lp8_3 (call : CallFn E) (n m : Nat) (y : Int × (List Int) × (List Int) × Int × (List Int) × Int × Int × Int × Int × (List (List Int)) × (List (Int × Int)) × (List (List Int))) : lq8_3 call n (m + 1) y = F8_3 (g23 call) (g24 call) (g25 call) (g26 call) (g27 call) (g28 call) (g29 call)  (lq8_3 call n m) y := by kernel_rfl
theorem lp8_2 (call : CallFn E) (n m : Nat) (y : Int × (List Int) × (List Int) × Int × (List Int) × Int × Int × (List (List Int)) × (List (Int × Int))) : lq8_2 call n (m + 1) y = F8_2 (g23 call) (g24 call) (g25 call) (g26 call) (g27 call) (g28 call) (g29 call) (lq8_0 call n n) (lq8_3 call n n) (lq8_2 call n m) y := by kernel_rfl
theorem lp8_1 (call : CallFn E) (n m : Nat) (y : Int × (List Int) × (List Int) × Int × (List Int) × (List Int) × (List Int) × Int × Int × (List (List Int))) : lq8_1 call n (m + 1) y = F8_1 (g23 call) (g24 call) (g25 call) (g26 call) (g27 call) (g28 call) (g29 call)  (lq8_1 call n m) y := by kernel_rfl
noncomputable def q8 (call : CallFn E) (n : Nat) (a0 : Int) (a1 : (List Int)) (a2 : (List Int)) (a3 : Int) : Option ((List (Int × Int)) × Int × Int) := runHow E call n s8 (a0, a1, a2, a3) h8
theorem rr8 (call : CallFn E) (n : Nat) (a0 : Int) (a1 : (List Int)) (a2 : (List Int)) (a3 : Int) : q8 call n a0 a1 a2 a3 = r8 (g23 call) (g24 call) (g25 call) (g26 call) (g27 call) (g28 call) (g29 call) (lq8_0 call n n) (lq8_1 call n n) (lq8_2 call n n) (lq8_3 call n n) a0 a1 a2 a3 := by kernel_rfl
theorem gq8 (n : Nat) (a0 : Int) (a1 : (List Int)) (a2 : (List Int)) (a3 : Int) : g8 (evalF E (n + 1)) a0 a1 a2 a3 = q8 (evalF E n) n a0 a1 a2 a3 := by kernel_rfl
noncomputable def q9 (call : CallFn E) (n : Nat) (_ : Unit) : Option (Bool) := runHow E call n s9 () h9
theorem rr9 (call : CallFn E) (n : Nat) (u : Unit) : q9 call n u = r9 (g8 call) (g10 call) (g11 call) (g12 call) (g13 call)  u := by kernel_rfl
theorem gq9 (n : Nat) (u : Unit) : g9 (evalF E (n + 1)) u = q9 (evalF E n) n u := by kernel_rfl
def L10_0 : LH := ⟨[0, 1, 5, 6], ⟨[.dat (.int .i64), .dat (.int .i64), .ref 0, .dat (.int .i64)], [.row (.int .i64)]⟩, 0⟩
noncomputable def b10_0 : Code := codeAt c10 [1, 1, 1, 0, 1, 0, 0]
noncomputable def lq10_0 (call : CallFn E) (n m : Nat) (y : Int × Int × Int × (List Int)) : Option ((Int × Int × Int × (List Int)) ⊕ ((List Int))) := loopAt (ctxOf E call n s10 Try.f10 hs10) b10_0 [0, 1, 0, 1, 1, 1] L10_0 m y
theorem lp10_0 (call : CallFn E) (n m : Nat) (y : Int × Int × Int × (List Int)) : lq10_0 call n (m + 1) y = F10_0 (g30 call)  (lq10_0 call n m) y := by kernel_rfl
noncomputable def q10 (call : CallFn E) (n : Nat) (a0 : Int) (a1 : Int) : Option ((List Int)) := runHow E call n s10 (a0, a1) h10
theorem rr10 (call : CallFn E) (n : Nat) (a0 : Int) (a1 : Int) : q10 call n a0 a1 = r10 (g30 call) (lq10_0 call n n) a0 a1 := by kernel_rfl
theorem gq10 (n : Nat) (a0 : Int) (a1 : Int) : g10 (evalF E (n + 1)) a0 a1 = q10 (evalF E n) n a0 a1 := by kernel_rfl
def L11_0 : LH := ⟨[0, 1, 5], ⟨[.dat (.slice (.int .i64)), .dat (.slice (.int .i64)), .dat (.int .i64)], []⟩, 0⟩
noncomputable def b11_0 : Code := codeAt c11 [1, 1, 0, 1, 0, 0]
noncomputable def lq11_0 (call : CallFn E) (n m : Nat) (y : (List Int) × (List Int) × Int) : Option (((List Int) × (List Int) × Int) ⊕ (Bool)) := loopAt (ctxOf E call n s11 Try.f11 hs11) b11_0 [0, 1, 0, 1, 1] L11_0 m y
theorem lp11_0 (call : CallFn E) (n m : Nat) (y : (List Int) × (List Int) × Int) : lq11_0 call n (m + 1) y = F11_0   (lq11_0 call n m) y := by kernel_rfl
noncomputable def q11 (call : CallFn E) (n : Nat) (a0 : (List Int)) (a1 : (List Int)) : Option (Bool) := runHow E call n s11 (a0, a1) h11
theorem rr11 (call : CallFn E) (n : Nat) (a0 : (List Int)) (a1 : (List Int)) : q11 call n a0 a1 = r11  (lq11_0 call n n) a0 a1 := by kernel_rfl
theorem gq11 (n : Nat) (a0 : (List Int)) (a1 : (List Int)) : g11 (evalF E (n + 1)) a0 a1 = q11 (evalF E n) n a0 a1 := by kernel_rfl
noncomputable def q12 (call : CallFn E) (n : Nat) (a0 : Int) (a1 : Int) (a2 : Int) : Option (Int) := runHow E call n s12 (a0, a1, a2) h12
theorem rr12 (call : CallFn E) (n : Nat) (a0 : Int) (a1 : Int) (a2 : Int) : q12 call n a0 a1 a2 = r12 (g10 call) (g30 call) (g31 call)  a0 a1 a2 := by kernel_rfl
theorem gq12 (n : Nat) (a0 : Int) (a1 : Int) (a2 : Int) : g12 (evalF E (n + 1)) a0 a1 a2 = q12 (evalF E n) n a0 a1 a2 := by kernel_rfl
def L13_0 : LH := ⟨[0, 3], ⟨[.dat (.int .i64), .dat (.int .i64)], []⟩, 0⟩
noncomputable def b13_0 : Code := codeAt c13 [1, 1, 1, 0, 0, 0]
noncomputable def lq13_0 (call : CallFn E) (n m : Nat) (y : Int × Int) : Option ((Int × Int) ⊕ (Int)) := loopAt (ctxOf E call n s13 Try.f13 hs13) b13_0 [0, 0, 1, 1, 1] L13_0 m y
theorem lp13_0 (call : CallFn E) (n m : Nat) (y : Int × Int) : lq13_0 call n (m + 1) y = F13_0   (lq13_0 call n m) y := by kernel_rfl
noncomputable def q13 (call : CallFn E) (n : Nat) (a0 : Int) : Option (Int) := runHow E call n s13 a0 h13
theorem rr13 (call : CallFn E) (n : Nat) (a0 : Int) : q13 call n a0 = r13  (lq13_0 call n n) a0 := by kernel_rfl
theorem gq13 (n : Nat) (a0 : Int) : g13 (evalF E (n + 1)) a0 = q13 (evalF E n) n a0 := by kernel_rfl
def L14_0 : LH := ⟨[0, 1, 5, 6], ⟨[.dat (.slice (.int .i64)), .dat (.int .i64), .ref 0, .dat (.int .i64)], [.row (.int .i64)]⟩, 0⟩
noncomputable def b14_0 : Code := codeAt c14 [1, 1, 0, 1, 0, 0]
noncomputable def lq14_0 (call : CallFn E) (n m : Nat) (y : (List Int) × Int × Int × (List Int)) : Option (((List Int) × Int × Int × (List Int)) ⊕ ((List Int))) := loopAt (ctxOf E call n s14 Try.f14 hs14) b14_0 [0, 1, 0, 1, 1] L14_0 m y
theorem lp14_0 (call : CallFn E) (n m : Nat) (y : (List Int) × Int × Int × (List Int)) : lq14_0 call n (m + 1) y = F14_0   (lq14_0 call n m) y := by kernel_rfl
noncomputable def q14 (call : CallFn E) (n : Nat) (a0 : (List Int)) (a1 : Int) : Option ((List Int)) := runHow E call n s14 (a0, a1) h14
theorem rr14 (call : CallFn E) (n : Nat) (a0 : (List Int)) (a1 : Int) : q14 call n a0 a1 = r14  (lq14_0 call n n) a0 a1 := by kernel_rfl
theorem gq14 (n : Nat) (a0 : (List Int)) (a1 : Int) : g14 (evalF E (n + 1)) a0 a1 = q14 (evalF E n) n a0 a1 := by kernel_rfl
def L15_0 : LH := ⟨[0, 1, 5], ⟨[.dat (.slice (.pair (.int .i64) (.one (.int .i64)))), .dat (.slice (.pair (.int .i64) (.one (.int .i64)))), .dat (.int .i64)], []⟩, 0⟩
noncomputable def b15_0 : Code := codeAt c15 [1, 1, 0, 1, 0, 0]
noncomputable def lq15_0 (call : CallFn E) (n m : Nat) (y : (List (Int × Int)) × (List (Int × Int)) × Int) : Option (((List (Int × Int)) × (List (Int × Int)) × Int) ⊕ (Bool)) := loopAt (ctxOf E call n s15 Try.f15 hs15) b15_0 [0, 1, 0, 1, 1] L15_0 m y
theorem lp15_0 (call : CallFn E) (n m : Nat) (y : (List (Int × Int)) × (List (Int × Int)) × Int) : lq15_0 call n (m + 1) y = F15_0   (lq15_0 call n m) y := by kernel_rfl
noncomputable def q15 (call : CallFn E) (n : Nat) (a0 : (List (Int × Int))) (a1 : (List (Int × Int))) : Option (Bool) := runHow E call n s15 (a0, a1) h15
theorem rr15 (call : CallFn E) (n : Nat) (a0 : (List (Int × Int))) (a1 : (List (Int × Int))) : q15 call n a0 a1 = r15  (lq15_0 call n n) a0 a1 := by kernel_rfl
theorem gq15 (n : Nat) (a0 : (List (Int × Int))) (a1 : (List (Int × Int))) : g15 (evalF E (n + 1)) a0 a1 = q15 (evalF E n) n a0 a1 := by kernel_rfl
def L16_0 : LH := ⟨[0, 1, 5, 6, 7, 8], ⟨[.dat (.slice (.int .i64)), .dat (.slice (.int .i64)), .dat (.slice (.slice (.int .i64))), .ref 0, .dat (.int .i64), .dat (.int .i64)], [.row (.pair (.int .i64) (.one (.int .i64)))]⟩, 0⟩
noncomputable def b16_0 : Code := codeAt c16 [1, 1, 1, 1, 0, 0, 0]
noncomputable def lq16_0 (call : CallFn E) (n m : Nat) (y : (List Int) × (List Int) × (List (List Int)) × Int × Int × (List (Int × Int))) : Option (((List Int) × (List Int) × (List (List Int)) × Int × Int × (List (Int × Int))) ⊕ ((List (Int × Int)))) := loopAt (ctxOf E call n s16 Try.f16 hs16) b16_0 [0, 0, 1, 1, 1, 1] L16_0 m y
def L16_1 : LH := ⟨[6, 9, 10], ⟨[.ref 0, .ref 1, .dat (.int .i64)], [.row (.pair (.int .i64) (.one (.int .i64))), .row (.pair (.int .i64) (.one (.int .i64)))]⟩, 3⟩
noncomputable def b16_1 : Code := codeAt c16 [1, 1, 1, 1, 1, 1, 0, 1, 0, 0]
noncomputable def lq16_1 (call : CallFn E) (n m : Nat) (y : Int × (List (Int × Int)) × (List (Int × Int))) : Option ((Int × (List (Int × Int)) × (List (Int × Int))) ⊕ ((List (Int × Int)))) := loopAt (ctxOf E call n s16 Try.f16 hs16) b16_1 [0, 1, 0, 1, 1, 1, 1, 1, 1] L16_1 m y
theorem lp16_1 (call : CallFn E) (n m : Nat) (y : Int × (List (Int × Int)) × (List (Int × Int))) : lq16_1 call n (m + 1) y = F16_1 (g32 call)  (lq16_1 call n m) y := by kernel_rfl
theorem lp16_0 (call : CallFn E) (n m : Nat) (y : (List Int) × (List Int) × (List (List Int)) × Int × Int × (List (Int × Int))) : lq16_0 call n (m + 1) y = F16_0 (g32 call)  (lq16_0 call n m) y := by kernel_rfl
noncomputable def q16 (call : CallFn E) (n : Nat) (a0 : (List Int)) (a1 : (List Int)) : Option ((List (Int × Int))) := runHow E call n s16 (a0, a1) h16
theorem rr16 (call : CallFn E) (n : Nat) (a0 : (List Int)) (a1 : (List Int)) : q16 call n a0 a1 = r16 (g32 call) (lq16_0 call n n) (lq16_1 call n n) a0 a1 := by kernel_rfl
theorem gq16 (n : Nat) (a0 : (List Int)) (a1 : (List Int)) : g16 (evalF E (n + 1)) a0 a1 = q16 (evalF E n) n a0 a1 := by kernel_rfl
noncomputable def q17 (call : CallFn E) (n : Nat) (a0 : Int) (a1 : Int) : Option (Int) := runHow E call n s17 (a0, a1) h17
theorem rr17 (call : CallFn E) (n : Nat) (a0 : Int) (a1 : Int) : q17 call n a0 a1 = r17 (g33 call)  a0 a1 := by kernel_rfl
theorem gq17 (n : Nat) (a0 : Int) (a1 : Int) : g17 (evalF E (n + 1)) a0 a1 = q17 (evalF E n) n a0 a1 := by kernel_rfl
noncomputable def q24 (call : CallFn E) (n : Nat) (a0 : Int) : Option ((List Int)) := runHow E call n s24 a0 h24
theorem rr24 (call : CallFn E) (n : Nat) (a0 : Int) : q24 call n a0 = r24 (g38 call)  a0 := by kernel_rfl
theorem gq24 (n : Nat) (a0 : Int) : g24 (evalF E (n + 1)) a0 = q24 (evalF E n) n a0 := by kernel_rfl
noncomputable def q25 (call : CallFn E) (n : Nat) (a0 : Int) (a1 : (List Int)) (a2 : (List Int)) (a3 : Int) : Option ((List Int)) := runHow E call n s25 (a0, a1, a2, a3) h25
theorem rr25 (call : CallFn E) (n : Nat) (a0 : Int) (a1 : (List Int)) (a2 : (List Int)) (a3 : Int) : q25 call n a0 a1 a2 a3 = r25 (g39 call) (g40 call)  a0 a1 a2 a3 := by kernel_rfl
theorem gq25 (n : Nat) (a0 : Int) (a1 : (List Int)) (a2 : (List Int)) (a3 : Int) : g25 (evalF E (n + 1)) a0 a1 a2 a3 = q25 (evalF E n) n a0 a1 a2 a3 := by kernel_rfl
noncomputable def q27 (call : CallFn E) (n : Nat) (a0 : (List Int)) (a1 : Int) : Option (Bool) := runHow E call n s27 (a0, a1) h27
theorem rr27 (call : CallFn E) (n : Nat) (a0 : (List Int)) (a1 : Int) : q27 call n a0 a1 = r27 (g42 call)  a0 a1 := by kernel_rfl
theorem gq27 (n : Nat) (a0 : (List Int)) (a1 : Int) : g27 (evalF E (n + 1)) a0 a1 = q27 (evalF E n) n a0 a1 := by kernel_rfl
def L28_0 : LH := ⟨[0, 2, 3], ⟨[.ref 0, .dat (.int .i64), .dat (.int .i64)], [.row (.pair (.int .i64) (.one (.int .i64)))]⟩, 0⟩
noncomputable def b28_0 : Code := codeAt c28 [1, 0, 0]
noncomputable def lq28_0 (call : CallFn E) (n m : Nat) (y : Int × Int × (List (Int × Int))) : Option ((Int × Int × (List (Int × Int))) ⊕ ((List (Int × Int)))) := loopAt (ctxOf E call n s28 Try.f28 hs28) b28_0 [0, 1] L28_0 m y
theorem lp28_0 (call : CallFn E) (n m : Nat) (y : Int × Int × (List (Int × Int))) : lq28_0 call n (m + 1) y = F28_0   (lq28_0 call n m) y := by kernel_rfl
noncomputable def q28 (call : CallFn E) (n : Nat) (a0 : (List (Int × Int))) : Option ((List (Int × Int))) := runHow E call n s28 a0 h28
theorem rr28 (call : CallFn E) (n : Nat) (a0 : (List (Int × Int))) : q28 call n a0 = r28  (lq28_0 call n n) a0 := by kernel_rfl
theorem gq28 (n : Nat) (a0 : (List (Int × Int))) : g28 (evalF E (n + 1)) a0 = q28 (evalF E n) n a0 := by kernel_rfl
noncomputable def q29 (call : CallFn E) (n : Nat) (a0 : Int) (a1 : Int) : Option (Int) := runHow E call n s29 (a0, a1) h29
theorem rr29 (call : CallFn E) (n : Nat) (a0 : Int) (a1 : Int) : q29 call n a0 a1 = r29 (g31 call) (g43 call)  a0 a1 := by kernel_rfl
theorem gq29 (n : Nat) (a0 : Int) (a1 : Int) : g29 (evalF E (n + 1)) a0 a1 = q29 (evalF E n) n a0 a1 := by kernel_rfl
noncomputable def q30 (call : CallFn E) (n : Nat) (a0 : Int) : Option (Bool) := runHow E call n s30 a0 h30
theorem rr30 (call : CallFn E) (n : Nat) (a0 : Int) : q30 call n a0 = r30   a0 := by kernel_rfl
theorem gq30 (n : Nat) (a0 : Int) : g30 (evalF E (n + 1)) a0 = q30 (evalF E n) n a0 := by kernel_rfl
noncomputable def q31 (call : CallFn E) (n : Nat) (a0 : Int) : Option (Int) := runHow E call n s31 a0 h31
theorem rr31 (call : CallFn E) (n : Nat) (a0 : Int) : q31 call n a0 = r31 (g44 call)  a0 := by kernel_rfl
theorem gq31 (n : Nat) (a0 : Int) : g31 (evalF E (n + 1)) a0 = q31 (evalF E n) n a0 := by kernel_rfl
noncomputable def q33 (call : CallFn E) (n : Nat) (a0 : Int) : Option (Int) := runHow E call n s33 a0 h33
theorem rr33 (call : CallFn E) (n : Nat) (a0 : Int) : q33 call n a0 = r33 (g46 call)  a0 := by kernel_rfl
theorem gq33 (n : Nat) (a0 : Int) : g33 (evalF E (n + 1)) a0 = q33 (evalF E n) n a0 := by kernel_rfl
def L38_0 : LH := ⟨[0, 1, 5, 11, 12], ⟨[.dat (.slice (.int .u64)), .dat (.int .i64), .ref 0, .dat (.int .i64), .dat (.int .i64)], [.row (.int .u64)]⟩, 0⟩
noncomputable def b38_0 : Code := codeAt c38 [1, 1, 0, 1, 0, 0]
noncomputable def lq38_0 (call : CallFn E) (n m : Nat) (y : (List Int) × Int × Int × Int × (List Int)) : Option (((List Int) × Int × Int × Int × (List Int)) ⊕ ((List Int))) := loopAt (ctxOf E call n s38 Try.f38 hs38) b38_0 [0, 1, 0, 1, 1] L38_0 m y
theorem lp38_0 (call : CallFn E) (n m : Nat) (y : (List Int) × Int × Int × Int × (List Int)) : lq38_0 call n (m + 1) y = F38_0 (g31 call) (g49 call) (g50 call)  (lq38_0 call n m) y := by kernel_rfl
noncomputable def q38 (call : CallFn E) (n : Nat) (a0 : (List Int)) (a1 : Int) : Option ((List Int)) := runHow E call n s38 (a0, a1) h38
theorem rr38 (call : CallFn E) (n : Nat) (a0 : (List Int)) (a1 : Int) : q38 call n a0 a1 = r38 (g31 call) (g49 call) (g50 call) (lq38_0 call n n) a0 a1 := by kernel_rfl
theorem gq38 (n : Nat) (a0 : (List Int)) (a1 : Int) : g38 (evalF E (n + 1)) a0 a1 = q38 (evalF E n) n a0 a1 := by kernel_rfl
noncomputable def q39 (call : CallFn E) (n : Nat) (a0 : (List Int)) (a1 : (List Int)) (a2 : Int) : Option ((List Int)) := runHow E call n s39 (a0, a1, a2) h39
theorem rr39 (call : CallFn E) (n : Nat) (a0 : (List Int)) (a1 : (List Int)) (a2 : Int) : q39 call n a0 a1 a2 = r39 (g38 call) (g41 call) (g51 call) (g52 call) (g53 call)  a0 a1 a2 := by kernel_rfl
theorem gq39 (n : Nat) (a0 : (List Int)) (a1 : (List Int)) (a2 : Int) : g39 (evalF E (n + 1)) a0 a1 a2 = q39 (evalF E n) n a0 a1 a2 := by kernel_rfl
noncomputable def q40 (call : CallFn E) (n : Nat) (a0 : (List Int)) (a1 : (List Int)) (a2 : Int) : Option ((List Int)) := runHow E call n s40 (a0, a1, a2) h40
theorem rr40 (call : CallFn E) (n : Nat) (a0 : (List Int)) (a1 : (List Int)) (a2 : Int) : q40 call n a0 a1 a2 = r40 (g41 call) (g51 call) (g52 call) (g53 call) (g54 call)  a0 a1 a2 := by kernel_rfl
theorem gq40 (n : Nat) (a0 : (List Int)) (a1 : (List Int)) (a2 : Int) : g40 (evalF E (n + 1)) a0 a1 a2 = q40 (evalF E n) n a0 a1 a2 := by kernel_rfl
def L41_0 : LH := ⟨[0, 1, 5, 11, 12], ⟨[.dat (.slice (.int .u64)), .dat (.int .i64), .ref 0, .dat (.int .i64), .dat (.int .i64)], [.row (.int .u64)]⟩, 0⟩
noncomputable def b41_0 : Code := codeAt c41 [1, 1, 0, 1, 0, 0]
noncomputable def lq41_0 (call : CallFn E) (n m : Nat) (y : (List Int) × Int × Int × Int × (List Int)) : Option (((List Int) × Int × Int × Int × (List Int)) ⊕ ((List Int))) := loopAt (ctxOf E call n s41 Try.f41 hs41) b41_0 [0, 1, 0, 1, 1] L41_0 m y
theorem lp41_0 (call : CallFn E) (n m : Nat) (y : (List Int) × Int × Int × Int × (List Int)) : lq41_0 call n (m + 1) y = F41_0 (g31 call) (g49 call) (g50 call)  (lq41_0 call n m) y := by kernel_rfl
noncomputable def q41 (call : CallFn E) (n : Nat) (a0 : (List Int)) (a1 : Int) : Option ((List Int)) := runHow E call n s41 (a0, a1) h41
theorem rr41 (call : CallFn E) (n : Nat) (a0 : (List Int)) (a1 : Int) : q41 call n a0 a1 = r41 (g31 call) (g49 call) (g50 call) (lq41_0 call n n) a0 a1 := by kernel_rfl
theorem gq41 (n : Nat) (a0 : (List Int)) (a1 : Int) : g41 (evalF E (n + 1)) a0 a1 = q41 (evalF E n) n a0 a1 := by kernel_rfl
noncomputable def q42 (call : CallFn E) (n : Nat) (a0 : (List Int)) (a1 : Int) : Option (Bool) := runHow E call n s42 (a0, a1) h42
theorem rr42 (call : CallFn E) (n : Nat) (a0 : (List Int)) (a1 : Int) : q42 call n a0 a1 = r42   a0 a1 := by kernel_rfl
theorem gq42 (n : Nat) (a0 : (List Int)) (a1 : Int) : g42 (evalF E (n + 1)) a0 a1 = q42 (evalF E n) n a0 a1 := by kernel_rfl
noncomputable def q43 (call : CallFn E) (n : Nat) (a0 : Int) : Option (Bool) := runHow E call n s43 a0 h43
theorem rr43 (call : CallFn E) (n : Nat) (a0 : Int) : q43 call n a0 = r43   a0 := by kernel_rfl
theorem gq43 (n : Nat) (a0 : Int) : g43 (evalF E (n + 1)) a0 = q43 (evalF E n) n a0 := by kernel_rfl
noncomputable def q44 (call : CallFn E) (n : Nat) (a0 : Int) : Option (Int) := runHow E call n s44 a0 h44
theorem rr44 (call : CallFn E) (n : Nat) (a0 : Int) : q44 call n a0 = r44   a0 := by kernel_rfl
theorem gq44 (n : Nat) (a0 : Int) : g44 (evalF E (n + 1)) a0 = q44 (evalF E n) n a0 := by kernel_rfl
noncomputable def q46 (call : CallFn E) (n : Nat) (a0 : Int) : Option (Int) := runHow E call n s46 a0 h46
theorem rr46 (call : CallFn E) (n : Nat) (a0 : Int) : q46 call n a0 = r46   a0 := by kernel_rfl
theorem gq46 (n : Nat) (a0 : Int) : g46 (evalF E (n + 1)) a0 = q46 (evalF E n) n a0 := by kernel_rfl
noncomputable def q49 (call : CallFn E) (n : Nat) (a0 : (List Int)) (a1 : Int) : Option (Int) := runHow E call n s49 (a0, a1) h49
theorem rr49 (call : CallFn E) (n : Nat) (a0 : (List Int)) (a1 : Int) : q49 call n a0 a1 = r49   a0 a1 := by kernel_rfl
theorem gq49 (n : Nat) (a0 : (List Int)) (a1 : Int) : g49 (evalF E (n + 1)) a0 a1 = q49 (evalF E n) n a0 a1 := by kernel_rfl
noncomputable def q50 (call : CallFn E) (n : Nat) (a0 : Int) (a1 : Int) : Option (Int) := runHow E call n s50 (a0, a1) h50
theorem rr50 (call : CallFn E) (n : Nat) (a0 : Int) (a1 : Int) : q50 call n a0 a1 = r50 (g44 call)  a0 a1 := by kernel_rfl
theorem gq50 (n : Nat) (a0 : Int) (a1 : Int) : g50 (evalF E (n + 1)) a0 a1 = q50 (evalF E n) n a0 a1 := by kernel_rfl
def L51_0 : LH := ⟨[0, 1, 5, 14, 15], ⟨[.dat (.slice (.int .u64)), .dat (.slice (.int .u64)), .ref 0, .dat (.int .i64), .dat (.int .i64)], [.row (.int .u64)]⟩, 0⟩
noncomputable def b51_0 : Code := codeAt c51 [1, 1, 0, 1, 0, 0]
noncomputable def lq51_0 (call : CallFn E) (n m : Nat) (y : (List Int) × (List Int) × Int × Int × (List Int)) : Option (((List Int) × (List Int) × Int × Int × (List Int)) ⊕ ((List Int))) := loopAt (ctxOf E call n s51 Try.f51 hs51) b51_0 [0, 1, 0, 1, 1] L51_0 m y
theorem lp51_0 (call : CallFn E) (n m : Nat) (y : (List Int) × (List Int) × Int × Int × (List Int)) : lq51_0 call n (m + 1) y = F51_0 (g49 call)  (lq51_0 call n m) y := by kernel_rfl
noncomputable def q51 (call : CallFn E) (n : Nat) (a0 : (List Int)) (a1 : (List Int)) : Option ((List Int)) := runHow E call n s51 (a0, a1) h51
theorem rr51 (call : CallFn E) (n : Nat) (a0 : (List Int)) (a1 : (List Int)) : q51 call n a0 a1 = r51 (g49 call) (lq51_0 call n n) a0 a1 := by kernel_rfl
theorem gq51 (n : Nat) (a0 : (List Int)) (a1 : (List Int)) : g51 (evalF E (n + 1)) a0 a1 = q51 (evalF E n) n a0 a1 := by kernel_rfl
def L52_0 : LH := ⟨[0, 1, 5, 6, 15, 16], ⟨[.dat (.slice (.int .u64)), .dat (.slice (.int .u64)), .ref 0, .dat (.int .u64), .dat (.int .i64), .dat (.int .i64)], [.row (.int .u64)]⟩, 0⟩
noncomputable def b52_0 : Code := codeAt c52 [1, 1, 1, 0, 1, 0, 0]
noncomputable def lq52_0 (call : CallFn E) (n m : Nat) (y : (List Int) × (List Int) × Int × Int × Int × (List Int)) : Option (((List Int) × (List Int) × Int × Int × Int × (List Int)) ⊕ ((List Int))) := loopAt (ctxOf E call n s52 Try.f52 hs52) b52_0 [0, 1, 0, 1, 1, 1] L52_0 m y
theorem lp52_0 (call : CallFn E) (n m : Nat) (y : (List Int) × (List Int) × Int × Int × Int × (List Int)) : lq52_0 call n (m + 1) y = F52_0 (g49 call) (g66 call)  (lq52_0 call n m) y := by kernel_rfl
noncomputable def q52 (call : CallFn E) (n : Nat) (a0 : (List Int)) (a1 : (List Int)) : Option ((List Int)) := runHow E call n s52 (a0, a1) h52
theorem rr52 (call : CallFn E) (n : Nat) (a0 : (List Int)) (a1 : (List Int)) : q52 call n a0 a1 = r52 (g49 call) (g66 call) (lq52_0 call n n) a0 a1 := by kernel_rfl
theorem gq52 (n : Nat) (a0 : (List Int)) (a1 : (List Int)) : g52 (evalF E (n + 1)) a0 a1 = q52 (evalF E n) n a0 a1 := by kernel_rfl
def L53_0 : LH := ⟨[0, 1, 5, 14, 15], ⟨[.dat (.slice (.int .u64)), .dat (.slice (.int .u64)), .ref 0, .dat (.int .i64), .dat (.int .i64)], [.row (.int .u64)]⟩, 0⟩
noncomputable def b53_0 : Code := codeAt c53 [1, 1, 0, 1, 0, 0]
noncomputable def lq53_0 (call : CallFn E) (n m : Nat) (y : (List Int) × (List Int) × Int × Int × (List Int)) : Option (((List Int) × (List Int) × Int × Int × (List Int)) ⊕ ((List Int))) := loopAt (ctxOf E call n s53 Try.f53 hs53) b53_0 [0, 1, 0, 1, 1] L53_0 m y
theorem lp53_0 (call : CallFn E) (n m : Nat) (y : (List Int) × (List Int) × Int × Int × (List Int)) : lq53_0 call n (m + 1) y = F53_0 (g49 call)  (lq53_0 call n m) y := by kernel_rfl
noncomputable def q53 (call : CallFn E) (n : Nat) (a0 : (List Int)) (a1 : (List Int)) : Option ((List Int)) := runHow E call n s53 (a0, a1) h53
theorem rr53 (call : CallFn E) (n : Nat) (a0 : (List Int)) (a1 : (List Int)) : q53 call n a0 a1 = r53 (g49 call) (lq53_0 call n n) a0 a1 := by kernel_rfl
theorem gq53 (n : Nat) (a0 : (List Int)) (a1 : (List Int)) : g53 (evalF E (n + 1)) a0 a1 = q53 (evalF E n) n a0 a1 := by kernel_rfl
def L54_0 : LH := ⟨[0, 1, 5, 6, 15, 16], ⟨[.dat (.slice (.int .u64)), .dat (.slice (.int .u64)), .ref 0, .dat (.int .u64), .dat (.int .i64), .dat (.int .i64)], [.row (.int .u64)]⟩, 0⟩
noncomputable def b54_0 : Code := codeAt c54 [1, 1, 1, 0, 1, 0, 0]
noncomputable def lq54_0 (call : CallFn E) (n m : Nat) (y : (List Int) × (List Int) × Int × Int × Int × (List Int)) : Option (((List Int) × (List Int) × Int × Int × Int × (List Int)) ⊕ ((List Int))) := loopAt (ctxOf E call n s54 Try.f54 hs54) b54_0 [0, 1, 0, 1, 1, 1] L54_0 m y
theorem lp54_0 (call : CallFn E) (n m : Nat) (y : (List Int) × (List Int) × Int × Int × Int × (List Int)) : lq54_0 call n (m + 1) y = F54_0 (g49 call) (g67 call)  (lq54_0 call n m) y := by kernel_rfl
noncomputable def q54 (call : CallFn E) (n : Nat) (a0 : (List Int)) (a1 : (List Int)) : Option ((List Int)) := runHow E call n s54 (a0, a1) h54
theorem rr54 (call : CallFn E) (n : Nat) (a0 : (List Int)) (a1 : (List Int)) : q54 call n a0 a1 = r54 (g49 call) (g67 call) (lq54_0 call n n) a0 a1 := by kernel_rfl
theorem gq54 (n : Nat) (a0 : (List Int)) (a1 : (List Int)) : g54 (evalF E (n + 1)) a0 a1 = q54 (evalF E n) n a0 a1 := by kernel_rfl
def R23 : Nat → (List Int) → Option ((List Int))
  | 0, _ => none
  | _ + 1, a0 => maskNew a0
theorem e23 (n : Nat) : g23 (evalF E n) = R23 n := by cases n <;> rfl
def R44 : Nat → Int → Option (Int)
  | 0, _ => none
  | n + 1, a0 => r44   a0
theorem u44 (n : Nat) (a0 : Int) : R44 (n + 1) a0 = r44   a0 := rfl
theorem e44 : ∀ (n : Nat), g44 (evalF E n) = R44 n
  | 0 => by funext a0; rfl
  | n + 1 => by
    funext a0
    rw [gq44, rr44]
    rfl
def R31 : Nat → Int → Option (Int)
  | 0, _ => none
  | n + 1, a0 => r31 (R44 n)  a0
theorem u31 (n : Nat) (a0 : Int) : R31 (n + 1) a0 = r31 (R44 n)  a0 := rfl
theorem e31 : ∀ (n : Nat), g31 (evalF E n) = R31 n
  | 0 => by funext a0; rfl
  | n + 1 => by
    funext a0
    rw [gq31, rr31]
    simp only [e44 n]
    rfl
def R49 : Nat → (List Int) → Int → Option (Int)
  | 0, _, _ => none
  | n + 1, a0, a1 => r49   a0 a1
theorem u49 (n : Nat) (a0 : (List Int)) (a1 : Int) : R49 (n + 1) a0 a1 = r49   a0 a1 := rfl
theorem e49 : ∀ (n : Nat), g49 (evalF E n) = R49 n
  | 0 => by funext a0 a1; rfl
  | n + 1 => by
    funext a0 a1
    rw [gq49, rr49]
    rfl
def R50 : Nat → Int → Int → Option (Int)
  | 0, _, _ => none
  | n + 1, a0, a1 => r50 (R44 n)  a0 a1
theorem u50 (n : Nat) (a0 : Int) (a1 : Int) : R50 (n + 1) a0 a1 = r50 (R44 n)  a0 a1 := rfl
theorem e50 : ∀ (n : Nat), g50 (evalF E n) = R50 n
  | 0 => by funext a0 a1; rfl
  | n + 1 => by
    funext a0 a1
    rw [gq50, rr50]
    simp only [e44 n]
    rfl
def R38 : Nat → (List Int) → Int → Option ((List Int))
  | 0, _, _ => none
  | n + 1, a0, a1 => r38 (R31 n) (R49 n) (R50 n) (iter (F38_0 (R31 n) (R49 n) (R50 n) ) n) a0 a1
def J38_0 (n m : Nat) : ((List Int) × Int × Int × Int × (List Int)) → Option (((List Int) × Int × Int × Int × (List Int)) ⊕ ((List Int))) := iter (F38_0 (R31 n) (R49 n) (R50 n) ) m
theorem j38_0 (n m : Nat) (x : (List Int) × Int × Int × Int × (List Int)) : J38_0 n (m + 1) x = F38_0 (R31 n) (R49 n) (R50 n)  (J38_0 n m) x := rfl
theorem u38 (n : Nat) (a0 : (List Int)) (a1 : Int) : R38 (n + 1) a0 a1 = r38 (R31 n) (R49 n) (R50 n) (J38_0 n n) a0 a1 := rfl
theorem e38 : ∀ (n : Nat), g38 (evalF E n) = R38 n
  | 0 => by funext a0 a1; rfl
  | n + 1 => by
    have l0 : lq38_0 (evalF E n) n n = (iter (F38_0 (R31 n) (R49 n) (R50 n) ) n) := iter_of (g := lq38_0 (evalF E n) n) rfl (fun m y => by rw [lp38_0]; simp only [e31 n, e49 n, e50 n]) n
    funext a0 a1
    rw [gq38, rr38]
    simp only [e31 n, e49 n, e50 n, l0]
    rfl
def R24 : Nat → Int → Option ((List Int))
  | 0, _ => none
  | n + 1, a0 => r24 (R38 n)  a0
theorem u24 (n : Nat) (a0 : Int) : R24 (n + 1) a0 = r24 (R38 n)  a0 := rfl
theorem e24 : ∀ (n : Nat), g24 (evalF E n) = R24 n
  | 0 => by funext a0; rfl
  | n + 1 => by
    funext a0
    rw [gq24, rr24]
    simp only [e38 n]
    rfl
def R41 : Nat → (List Int) → Int → Option ((List Int))
  | 0, _, _ => none
  | n + 1, a0, a1 => r41 (R31 n) (R49 n) (R50 n) (iter (F41_0 (R31 n) (R49 n) (R50 n) ) n) a0 a1
def J41_0 (n m : Nat) : ((List Int) × Int × Int × Int × (List Int)) → Option (((List Int) × Int × Int × Int × (List Int)) ⊕ ((List Int))) := iter (F41_0 (R31 n) (R49 n) (R50 n) ) m
theorem j41_0 (n m : Nat) (x : (List Int) × Int × Int × Int × (List Int)) : J41_0 n (m + 1) x = F41_0 (R31 n) (R49 n) (R50 n)  (J41_0 n m) x := rfl
theorem u41 (n : Nat) (a0 : (List Int)) (a1 : Int) : R41 (n + 1) a0 a1 = r41 (R31 n) (R49 n) (R50 n) (J41_0 n n) a0 a1 := rfl
theorem e41 : ∀ (n : Nat), g41 (evalF E n) = R41 n
  | 0 => by funext a0 a1; rfl
  | n + 1 => by
    have l0 : lq41_0 (evalF E n) n n = (iter (F41_0 (R31 n) (R49 n) (R50 n) ) n) := iter_of (g := lq41_0 (evalF E n) n) rfl (fun m y => by rw [lp41_0]; simp only [e31 n, e49 n, e50 n]) n
    funext a0 a1
    rw [gq41, rr41]
    simp only [e31 n, e49 n, e50 n, l0]
    rfl
def R51 : Nat → (List Int) → (List Int) → Option ((List Int))
  | 0, _, _ => none
  | n + 1, a0, a1 => r51 (R49 n) (iter (F51_0 (R49 n) ) n) a0 a1
def J51_0 (n m : Nat) : ((List Int) × (List Int) × Int × Int × (List Int)) → Option (((List Int) × (List Int) × Int × Int × (List Int)) ⊕ ((List Int))) := iter (F51_0 (R49 n) ) m
theorem j51_0 (n m : Nat) (x : (List Int) × (List Int) × Int × Int × (List Int)) : J51_0 n (m + 1) x = F51_0 (R49 n)  (J51_0 n m) x := rfl
theorem u51 (n : Nat) (a0 : (List Int)) (a1 : (List Int)) : R51 (n + 1) a0 a1 = r51 (R49 n) (J51_0 n n) a0 a1 := rfl
theorem e51 : ∀ (n : Nat), g51 (evalF E n) = R51 n
  | 0 => by funext a0 a1; rfl
  | n + 1 => by
    have l0 : lq51_0 (evalF E n) n n = (iter (F51_0 (R49 n) ) n) := iter_of (g := lq51_0 (evalF E n) n) rfl (fun m y => by rw [lp51_0]; simp only [e49 n]) n
    funext a0 a1
    rw [gq51, rr51]
    simp only [e49 n, l0]
    rfl
def R66 : Nat → Int → Int → Int → Option (Int × Int)
  | 0, _, _, _ => none
  | _ + 1, a0, a1, a2 => add64 (a0, a1, a2)
theorem e66 (n : Nat) : g66 (evalF E n) = R66 n := by cases n <;> rfl
def R52 : Nat → (List Int) → (List Int) → Option ((List Int))
  | 0, _, _ => none
  | n + 1, a0, a1 => r52 (R49 n) (R66 n) (iter (F52_0 (R49 n) (R66 n) ) n) a0 a1
def J52_0 (n m : Nat) : ((List Int) × (List Int) × Int × Int × Int × (List Int)) → Option (((List Int) × (List Int) × Int × Int × Int × (List Int)) ⊕ ((List Int))) := iter (F52_0 (R49 n) (R66 n) ) m
theorem j52_0 (n m : Nat) (x : (List Int) × (List Int) × Int × Int × Int × (List Int)) : J52_0 n (m + 1) x = F52_0 (R49 n) (R66 n)  (J52_0 n m) x := rfl
theorem u52 (n : Nat) (a0 : (List Int)) (a1 : (List Int)) : R52 (n + 1) a0 a1 = r52 (R49 n) (R66 n) (J52_0 n n) a0 a1 := rfl
theorem e52 : ∀ (n : Nat), g52 (evalF E n) = R52 n
  | 0 => by funext a0 a1; rfl
  | n + 1 => by
    have l0 : lq52_0 (evalF E n) n n = (iter (F52_0 (R49 n) (R66 n) ) n) := iter_of (g := lq52_0 (evalF E n) n) rfl (fun m y => by rw [lp52_0]; simp only [e49 n, e66 n]) n
    funext a0 a1
    rw [gq52, rr52]
    simp only [e49 n, e66 n, l0]
    rfl
def R53 : Nat → (List Int) → (List Int) → Option ((List Int))
  | 0, _, _ => none
  | n + 1, a0, a1 => r53 (R49 n) (iter (F53_0 (R49 n) ) n) a0 a1
def J53_0 (n m : Nat) : ((List Int) × (List Int) × Int × Int × (List Int)) → Option (((List Int) × (List Int) × Int × Int × (List Int)) ⊕ ((List Int))) := iter (F53_0 (R49 n) ) m
theorem j53_0 (n m : Nat) (x : (List Int) × (List Int) × Int × Int × (List Int)) : J53_0 n (m + 1) x = F53_0 (R49 n)  (J53_0 n m) x := rfl
theorem u53 (n : Nat) (a0 : (List Int)) (a1 : (List Int)) : R53 (n + 1) a0 a1 = r53 (R49 n) (J53_0 n n) a0 a1 := rfl
theorem e53 : ∀ (n : Nat), g53 (evalF E n) = R53 n
  | 0 => by funext a0 a1; rfl
  | n + 1 => by
    have l0 : lq53_0 (evalF E n) n n = (iter (F53_0 (R49 n) ) n) := iter_of (g := lq53_0 (evalF E n) n) rfl (fun m y => by rw [lp53_0]; simp only [e49 n]) n
    funext a0 a1
    rw [gq53, rr53]
    simp only [e49 n, l0]
    rfl
def R39 : Nat → (List Int) → (List Int) → Int → Option ((List Int))
  | 0, _, _, _ => none
  | n + 1, a0, a1, a2 => r39 (R38 n) (R41 n) (R51 n) (R52 n) (R53 n)  a0 a1 a2
theorem u39 (n : Nat) (a0 : (List Int)) (a1 : (List Int)) (a2 : Int) : R39 (n + 1) a0 a1 a2 = r39 (R38 n) (R41 n) (R51 n) (R52 n) (R53 n)  a0 a1 a2 := rfl
theorem e39 : ∀ (n : Nat), g39 (evalF E n) = R39 n
  | 0 => by funext a0 a1 a2; rfl
  | n + 1 => by
    funext a0 a1 a2
    rw [gq39, rr39]
    simp only [e38 n, e41 n, e51 n, e52 n, e53 n]
    rfl
def R67 : Nat → Int → Int → Int → Option (Int × Int)
  | 0, _, _, _ => none
  | _ + 1, a0, a1, a2 => sub64 (a0, a1, a2)
theorem e67 (n : Nat) : g67 (evalF E n) = R67 n := by cases n <;> rfl
def R54 : Nat → (List Int) → (List Int) → Option ((List Int))
  | 0, _, _ => none
  | n + 1, a0, a1 => r54 (R49 n) (R67 n) (iter (F54_0 (R49 n) (R67 n) ) n) a0 a1
def J54_0 (n m : Nat) : ((List Int) × (List Int) × Int × Int × Int × (List Int)) → Option (((List Int) × (List Int) × Int × Int × Int × (List Int)) ⊕ ((List Int))) := iter (F54_0 (R49 n) (R67 n) ) m
theorem j54_0 (n m : Nat) (x : (List Int) × (List Int) × Int × Int × Int × (List Int)) : J54_0 n (m + 1) x = F54_0 (R49 n) (R67 n)  (J54_0 n m) x := rfl
theorem u54 (n : Nat) (a0 : (List Int)) (a1 : (List Int)) : R54 (n + 1) a0 a1 = r54 (R49 n) (R67 n) (J54_0 n n) a0 a1 := rfl
theorem e54 : ∀ (n : Nat), g54 (evalF E n) = R54 n
  | 0 => by funext a0 a1; rfl
  | n + 1 => by
    have l0 : lq54_0 (evalF E n) n n = (iter (F54_0 (R49 n) (R67 n) ) n) := iter_of (g := lq54_0 (evalF E n) n) rfl (fun m y => by rw [lp54_0]; simp only [e49 n, e67 n]) n
    funext a0 a1
    rw [gq54, rr54]
    simp only [e49 n, e67 n, l0]
    rfl
def R40 : Nat → (List Int) → (List Int) → Int → Option ((List Int))
  | 0, _, _, _ => none
  | n + 1, a0, a1, a2 => r40 (R41 n) (R51 n) (R52 n) (R53 n) (R54 n)  a0 a1 a2
theorem u40 (n : Nat) (a0 : (List Int)) (a1 : (List Int)) (a2 : Int) : R40 (n + 1) a0 a1 a2 = r40 (R41 n) (R51 n) (R52 n) (R53 n) (R54 n)  a0 a1 a2 := rfl
theorem e40 : ∀ (n : Nat), g40 (evalF E n) = R40 n
  | 0 => by funext a0 a1 a2; rfl
  | n + 1 => by
    funext a0 a1 a2
    rw [gq40, rr40]
    simp only [e41 n, e51 n, e52 n, e53 n, e54 n]
    rfl
def R25 : Nat → Int → (List Int) → (List Int) → Int → Option ((List Int))
  | 0, _, _, _, _ => none
  | n + 1, a0, a1, a2, a3 => r25 (R39 n) (R40 n)  a0 a1 a2 a3
theorem u25 (n : Nat) (a0 : Int) (a1 : (List Int)) (a2 : (List Int)) (a3 : Int) : R25 (n + 1) a0 a1 a2 a3 = r25 (R39 n) (R40 n)  a0 a1 a2 a3 := rfl
theorem e25 : ∀ (n : Nat), g25 (evalF E n) = R25 n
  | 0 => by funext a0 a1 a2 a3; rfl
  | n + 1 => by
    funext a0 a1 a2 a3
    rw [gq25, rr25]
    simp only [e39 n, e40 n]
    rfl
def R26 : Nat → (List Int) → Int → Option ((List Int))
  | 0, _, _ => none
  | _ + 1, a0, a1 => maskOf (a0, a1)
theorem e26 (n : Nat) : g26 (evalF E n) = R26 n := by cases n <;> rfl
def R42 : Nat → (List Int) → Int → Option (Bool)
  | 0, _, _ => none
  | n + 1, a0, a1 => r42   a0 a1
theorem u42 (n : Nat) (a0 : (List Int)) (a1 : Int) : R42 (n + 1) a0 a1 = r42   a0 a1 := rfl
theorem e42 : ∀ (n : Nat), g42 (evalF E n) = R42 n
  | 0 => by funext a0 a1; rfl
  | n + 1 => by
    funext a0 a1
    rw [gq42, rr42]
    rfl
def R27 : Nat → (List Int) → Int → Option (Bool)
  | 0, _, _ => none
  | n + 1, a0, a1 => r27 (R42 n)  a0 a1
theorem u27 (n : Nat) (a0 : (List Int)) (a1 : Int) : R27 (n + 1) a0 a1 = r27 (R42 n)  a0 a1 := rfl
theorem e27 : ∀ (n : Nat), g27 (evalF E n) = R27 n
  | 0 => by funext a0 a1; rfl
  | n + 1 => by
    funext a0 a1
    rw [gq27, rr27]
    simp only [e42 n]
    rfl
def R28 : Nat → (List (Int × Int)) → Option ((List (Int × Int)))
  | 0, _ => none
  | n + 1, a0 => r28  (iter (F28_0  ) n) a0
def J28_0 (n m : Nat) : (Int × Int × (List (Int × Int))) → Option ((Int × Int × (List (Int × Int))) ⊕ ((List (Int × Int)))) := iter (F28_0  ) m
theorem j28_0 (n m : Nat) (x : Int × Int × (List (Int × Int))) : J28_0 n (m + 1) x = F28_0   (J28_0 n m) x := rfl
theorem u28 (n : Nat) (a0 : (List (Int × Int))) : R28 (n + 1) a0 = r28  (J28_0 n n) a0 := rfl
theorem e28 : ∀ (n : Nat), g28 (evalF E n) = R28 n
  | 0 => by funext a0; rfl
  | n + 1 => by
    have l0 : lq28_0 (evalF E n) n n = (iter (F28_0  ) n) := iter_of (g := lq28_0 (evalF E n) n) rfl (fun m y => by rw [lp28_0]) n
    funext a0
    rw [gq28, rr28]
    simp only [l0]
    rfl
def R43 : Nat → Int → Option (Bool)
  | 0, _ => none
  | n + 1, a0 => r43   a0
theorem u43 (n : Nat) (a0 : Int) : R43 (n + 1) a0 = r43   a0 := rfl
theorem e43 : ∀ (n : Nat), g43 (evalF E n) = R43 n
  | 0 => by funext a0; rfl
  | n + 1 => by
    funext a0
    rw [gq43, rr43]
    rfl
def R29 : Nat → Int → Int → Option (Int)
  | 0, _, _ => none
  | n + 1, a0, a1 => r29 (R31 n) (R43 n)  a0 a1
theorem u29 (n : Nat) (a0 : Int) (a1 : Int) : R29 (n + 1) a0 a1 = r29 (R31 n) (R43 n)  a0 a1 := rfl
theorem e29 : ∀ (n : Nat), g29 (evalF E n) = R29 n
  | 0 => by funext a0 a1; rfl
  | n + 1 => by
    funext a0 a1
    rw [gq29, rr29]
    simp only [e31 n, e43 n]
    rfl
def R8 : Nat → Int → (List Int) → (List Int) → Int → Option ((List (Int × Int)) × Int × Int)
  | 0, _, _, _, _ => none
  | n + 1, a0, a1, a2, a3 => r8 (R23 n) (R24 n) (R25 n) (R26 n) (R27 n) (R28 n) (R29 n) (iter (F8_0 (R23 n) (R24 n) (R25 n) (R26 n) (R27 n) (R28 n) (R29 n) ) n) (iter (F8_1 (R23 n) (R24 n) (R25 n) (R26 n) (R27 n) (R28 n) (R29 n) ) n) (iter (F8_2 (R23 n) (R24 n) (R25 n) (R26 n) (R27 n) (R28 n) (R29 n) (iter (F8_0 (R23 n) (R24 n) (R25 n) (R26 n) (R27 n) (R28 n) (R29 n) ) n) (iter (F8_3 (R23 n) (R24 n) (R25 n) (R26 n) (R27 n) (R28 n) (R29 n) ) n)) n) (iter (F8_3 (R23 n) (R24 n) (R25 n) (R26 n) (R27 n) (R28 n) (R29 n) ) n) a0 a1 a2 a3
def J8_0 (n m : Nat) : (Int × (List Int) × (List Int) × Int × (List Int) × Int × Int × Int × Int × Int × (List (List Int)) × (List (Int × Int)) × (List (List Int))) → Option ((Int × (List Int) × (List Int) × Int × (List Int) × Int × Int × Int × Int × Int × (List (List Int)) × (List (Int × Int)) × (List (List Int))) ⊕ ((List (Int × Int)) × Int × Int)) := iter (F8_0 (R23 n) (R24 n) (R25 n) (R26 n) (R27 n) (R28 n) (R29 n) ) m
theorem j8_0 (n m : Nat) (x : Int × (List Int) × (List Int) × Int × (List Int) × Int × Int × Int × Int × Int × (List (List Int)) × (List (Int × Int)) × (List (List Int))) : J8_0 n (m + 1) x = F8_0 (R23 n) (R24 n) (R25 n) (R26 n) (R27 n) (R28 n) (R29 n)  (J8_0 n m) x := rfl
def J8_3 (n m : Nat) : (Int × (List Int) × (List Int) × Int × (List Int) × Int × Int × Int × Int × (List (List Int)) × (List (Int × Int)) × (List (List Int))) → Option ((Int × (List Int) × (List Int) × Int × (List Int) × Int × Int × Int × Int × (List (List Int)) × (List (Int × Int)) × (List (List Int))) ⊕ ((List (Int × Int)) × Int × Int)) := iter (F8_3 (R23 n) (R24 n) (R25 n) (R26 n) (R27 n) (R28 n) (R29 n) ) m
theorem j8_3 (n m : Nat) (x : Int × (List Int) × (List Int) × Int × (List Int) × Int × Int × Int × Int × (List (List Int)) × (List (Int × Int)) × (List (List Int))) : J8_3 n (m + 1) x = F8_3 (R23 n) (R24 n) (R25 n) (R26 n) (R27 n) (R28 n) (R29 n)  (J8_3 n m) x := rfl
def J8_2 (n m : Nat) : (Int × (List Int) × (List Int) × Int × (List Int) × Int × Int × (List (List Int)) × (List (Int × Int))) → Option ((Int × (List Int) × (List Int) × Int × (List Int) × Int × Int × (List (List Int)) × (List (Int × Int))) ⊕ ((List (Int × Int)) × Int × Int)) := iter (F8_2 (R23 n) (R24 n) (R25 n) (R26 n) (R27 n) (R28 n) (R29 n) (J8_0 n n) (J8_3 n n)) m
theorem j8_2 (n m : Nat) (x : Int × (List Int) × (List Int) × Int × (List Int) × Int × Int × (List (List Int)) × (List (Int × Int))) : J8_2 n (m + 1) x = F8_2 (R23 n) (R24 n) (R25 n) (R26 n) (R27 n) (R28 n) (R29 n) (J8_0 n n) (J8_3 n n) (J8_2 n m) x := rfl
def J8_1 (n m : Nat) : (Int × (List Int) × (List Int) × Int × (List Int) × (List Int) × (List Int) × Int × Int × (List (List Int))) → Option ((Int × (List Int) × (List Int) × Int × (List Int) × (List Int) × (List Int) × Int × Int × (List (List Int))) ⊕ ((List (Int × Int)) × Int × Int)) := iter (F8_1 (R23 n) (R24 n) (R25 n) (R26 n) (R27 n) (R28 n) (R29 n) ) m
theorem j8_1 (n m : Nat) (x : Int × (List Int) × (List Int) × Int × (List Int) × (List Int) × (List Int) × Int × Int × (List (List Int))) : J8_1 n (m + 1) x = F8_1 (R23 n) (R24 n) (R25 n) (R26 n) (R27 n) (R28 n) (R29 n)  (J8_1 n m) x := rfl
theorem u8 (n : Nat) (a0 : Int) (a1 : (List Int)) (a2 : (List Int)) (a3 : Int) : R8 (n + 1) a0 a1 a2 a3 = r8 (R23 n) (R24 n) (R25 n) (R26 n) (R27 n) (R28 n) (R29 n) (J8_0 n n) (J8_1 n n) (J8_2 n n) (J8_3 n n) a0 a1 a2 a3 := rfl
theorem e8 : ∀ (n : Nat), g8 (evalF E n) = R8 n
  | 0 => by funext a0 a1 a2 a3; rfl
  | n + 1 => by
    have l0 : lq8_0 (evalF E n) n n = (iter (F8_0 (R23 n) (R24 n) (R25 n) (R26 n) (R27 n) (R28 n) (R29 n) ) n) := iter_of (g := lq8_0 (evalF E n) n) rfl (fun m y => by rw [lp8_0]; simp only [e23 n, e24 n, e25 n, e26 n, e27 n, e28 n, e29 n]) n
    have l3 : lq8_3 (evalF E n) n n = (iter (F8_3 (R23 n) (R24 n) (R25 n) (R26 n) (R27 n) (R28 n) (R29 n) ) n) := iter_of (g := lq8_3 (evalF E n) n) rfl (fun m y => by rw [lp8_3]; simp only [e23 n, e24 n, e25 n, e26 n, e27 n, e28 n, e29 n]) n
    have l2 : lq8_2 (evalF E n) n n = (iter (F8_2 (R23 n) (R24 n) (R25 n) (R26 n) (R27 n) (R28 n) (R29 n) (iter (F8_0 (R23 n) (R24 n) (R25 n) (R26 n) (R27 n) (R28 n) (R29 n) ) n) (iter (F8_3 (R23 n) (R24 n) (R25 n) (R26 n) (R27 n) (R28 n) (R29 n) ) n)) n) := iter_of (g := lq8_2 (evalF E n) n) rfl (fun m y => by rw [lp8_2]; simp only [e23 n, e24 n, e25 n, e26 n, e27 n, e28 n, e29 n, l0, l3]) n
    have l1 : lq8_1 (evalF E n) n n = (iter (F8_1 (R23 n) (R24 n) (R25 n) (R26 n) (R27 n) (R28 n) (R29 n) ) n) := iter_of (g := lq8_1 (evalF E n) n) rfl (fun m y => by rw [lp8_1]; simp only [e23 n, e24 n, e25 n, e26 n, e27 n, e28 n, e29 n]) n
    funext a0 a1 a2 a3
    rw [gq8, rr8]
    simp only [e23 n, e24 n, e25 n, e26 n, e27 n, e28 n, e29 n, l0, l1, l2, l3]
    rfl
def R30 : Nat → Int → Option (Bool)
  | 0, _ => none
  | n + 1, a0 => r30   a0
theorem u30 (n : Nat) (a0 : Int) : R30 (n + 1) a0 = r30   a0 := rfl
theorem e30 : ∀ (n : Nat), g30 (evalF E n) = R30 n
  | 0 => by funext a0; rfl
  | n + 1 => by
    funext a0
    rw [gq30, rr30]
    rfl
def R10 : Nat → Int → Int → Option ((List Int))
  | 0, _, _ => none
  | n + 1, a0, a1 => r10 (R30 n) (iter (F10_0 (R30 n) ) n) a0 a1
def J10_0 (n m : Nat) : (Int × Int × Int × (List Int)) → Option ((Int × Int × Int × (List Int)) ⊕ ((List Int))) := iter (F10_0 (R30 n) ) m
theorem j10_0 (n m : Nat) (x : Int × Int × Int × (List Int)) : J10_0 n (m + 1) x = F10_0 (R30 n)  (J10_0 n m) x := rfl
theorem u10 (n : Nat) (a0 : Int) (a1 : Int) : R10 (n + 1) a0 a1 = r10 (R30 n) (J10_0 n n) a0 a1 := rfl
theorem e10 : ∀ (n : Nat), g10 (evalF E n) = R10 n
  | 0 => by funext a0 a1; rfl
  | n + 1 => by
    have l0 : lq10_0 (evalF E n) n n = (iter (F10_0 (R30 n) ) n) := iter_of (g := lq10_0 (evalF E n) n) rfl (fun m y => by rw [lp10_0]; simp only [e30 n]) n
    funext a0 a1
    rw [gq10, rr10]
    simp only [e30 n, l0]
    rfl
def R11 : Nat → (List Int) → (List Int) → Option (Bool)
  | 0, _, _ => none
  | n + 1, a0, a1 => r11  (iter (F11_0  ) n) a0 a1
def J11_0 (n m : Nat) : ((List Int) × (List Int) × Int) → Option (((List Int) × (List Int) × Int) ⊕ (Bool)) := iter (F11_0  ) m
theorem j11_0 (n m : Nat) (x : (List Int) × (List Int) × Int) : J11_0 n (m + 1) x = F11_0   (J11_0 n m) x := rfl
theorem u11 (n : Nat) (a0 : (List Int)) (a1 : (List Int)) : R11 (n + 1) a0 a1 = r11  (J11_0 n n) a0 a1 := rfl
theorem e11 : ∀ (n : Nat), g11 (evalF E n) = R11 n
  | 0 => by funext a0 a1; rfl
  | n + 1 => by
    have l0 : lq11_0 (evalF E n) n n = (iter (F11_0  ) n) := iter_of (g := lq11_0 (evalF E n) n) rfl (fun m y => by rw [lp11_0]) n
    funext a0 a1
    rw [gq11, rr11]
    simp only [l0]
    rfl
def R12 : Nat → Int → Int → Int → Option (Int)
  | 0, _, _, _ => none
  | n + 1, a0, a1, a2 => r12 (R10 n) (R30 n) (R31 n)  a0 a1 a2
theorem u12 (n : Nat) (a0 : Int) (a1 : Int) (a2 : Int) : R12 (n + 1) a0 a1 a2 = r12 (R10 n) (R30 n) (R31 n)  a0 a1 a2 := rfl
theorem e12 : ∀ (n : Nat), g12 (evalF E n) = R12 n
  | 0 => by funext a0 a1 a2; rfl
  | n + 1 => by
    funext a0 a1 a2
    rw [gq12, rr12]
    simp only [e10 n, e30 n, e31 n]
    rfl
def R13 : Nat → Int → Option (Int)
  | 0, _ => none
  | n + 1, a0 => r13  (iter (F13_0  ) n) a0
def J13_0 (n m : Nat) : (Int × Int) → Option ((Int × Int) ⊕ (Int)) := iter (F13_0  ) m
theorem j13_0 (n m : Nat) (x : Int × Int) : J13_0 n (m + 1) x = F13_0   (J13_0 n m) x := rfl
theorem u13 (n : Nat) (a0 : Int) : R13 (n + 1) a0 = r13  (J13_0 n n) a0 := rfl
theorem e13 : ∀ (n : Nat), g13 (evalF E n) = R13 n
  | 0 => by funext a0; rfl
  | n + 1 => by
    have l0 : lq13_0 (evalF E n) n n = (iter (F13_0  ) n) := iter_of (g := lq13_0 (evalF E n) n) rfl (fun m y => by rw [lp13_0]) n
    funext a0
    rw [gq13, rr13]
    simp only [l0]
    rfl
def R9 : Nat → Unit → Option (Bool)
  | 0, _ => none
  | n + 1, u => r9 (R8 n) (R10 n) (R11 n) (R12 n) (R13 n)  u
theorem u9 (n : Nat) (_ : Unit) : R9 (n + 1) () = r9 (R8 n) (R10 n) (R11 n) (R12 n) (R13 n)  () := rfl
theorem e9 : ∀ (n : Nat), g9 (evalF E n) = R9 n
  | 0 => by funext u; rfl
  | n + 1 => by
    funext u
    rw [gq9, rr9]
    simp only [e8 n, e10 n, e11 n, e12 n, e13 n]
    rfl
def R14 : Nat → (List Int) → Int → Option ((List Int))
  | 0, _, _ => none
  | n + 1, a0, a1 => r14  (iter (F14_0  ) n) a0 a1
def J14_0 (n m : Nat) : ((List Int) × Int × Int × (List Int)) → Option (((List Int) × Int × Int × (List Int)) ⊕ ((List Int))) := iter (F14_0  ) m
theorem j14_0 (n m : Nat) (x : (List Int) × Int × Int × (List Int)) : J14_0 n (m + 1) x = F14_0   (J14_0 n m) x := rfl
theorem u14 (n : Nat) (a0 : (List Int)) (a1 : Int) : R14 (n + 1) a0 a1 = r14  (J14_0 n n) a0 a1 := rfl
theorem e14 : ∀ (n : Nat), g14 (evalF E n) = R14 n
  | 0 => by funext a0 a1; rfl
  | n + 1 => by
    have l0 : lq14_0 (evalF E n) n n = (iter (F14_0  ) n) := iter_of (g := lq14_0 (evalF E n) n) rfl (fun m y => by rw [lp14_0]) n
    funext a0 a1
    rw [gq14, rr14]
    simp only [l0]
    rfl
def R15 : Nat → (List (Int × Int)) → (List (Int × Int)) → Option (Bool)
  | 0, _, _ => none
  | n + 1, a0, a1 => r15  (iter (F15_0  ) n) a0 a1
def J15_0 (n m : Nat) : ((List (Int × Int)) × (List (Int × Int)) × Int) → Option (((List (Int × Int)) × (List (Int × Int)) × Int) ⊕ (Bool)) := iter (F15_0  ) m
theorem j15_0 (n m : Nat) (x : (List (Int × Int)) × (List (Int × Int)) × Int) : J15_0 n (m + 1) x = F15_0   (J15_0 n m) x := rfl
theorem u15 (n : Nat) (a0 : (List (Int × Int))) (a1 : (List (Int × Int))) : R15 (n + 1) a0 a1 = r15  (J15_0 n n) a0 a1 := rfl
theorem e15 : ∀ (n : Nat), g15 (evalF E n) = R15 n
  | 0 => by funext a0 a1; rfl
  | n + 1 => by
    have l0 : lq15_0 (evalF E n) n n = (iter (F15_0  ) n) := iter_of (g := lq15_0 (evalF E n) n) rfl (fun m y => by rw [lp15_0]) n
    funext a0 a1
    rw [gq15, rr15]
    simp only [l0]
    rfl
def R32 : Nat → (List Int) → (List Int) → Option ((List (List Int)))
  | 0, _, _ => none
  | _ + 1, a0, a1 => GridY.ahdS (a0, a1)
theorem e32 (n : Nat) : g32 (evalF E n) = R32 n := by cases n <;> rfl
def R16 : Nat → (List Int) → (List Int) → Option ((List (Int × Int)))
  | 0, _, _ => none
  | n + 1, a0, a1 => r16 (R32 n) (iter (F16_0 (R32 n) ) n) (iter (F16_1 (R32 n) ) n) a0 a1
def J16_1 (n m : Nat) : (Int × (List (Int × Int)) × (List (Int × Int))) → Option ((Int × (List (Int × Int)) × (List (Int × Int))) ⊕ ((List (Int × Int)))) := iter (F16_1 (R32 n) ) m
theorem j16_1 (n m : Nat) (x : Int × (List (Int × Int)) × (List (Int × Int))) : J16_1 n (m + 1) x = F16_1 (R32 n)  (J16_1 n m) x := rfl
def J16_0 (n m : Nat) : ((List Int) × (List Int) × (List (List Int)) × Int × Int × (List (Int × Int))) → Option (((List Int) × (List Int) × (List (List Int)) × Int × Int × (List (Int × Int))) ⊕ ((List (Int × Int)))) := iter (F16_0 (R32 n) ) m
theorem j16_0 (n m : Nat) (x : (List Int) × (List Int) × (List (List Int)) × Int × Int × (List (Int × Int))) : J16_0 n (m + 1) x = F16_0 (R32 n)  (J16_0 n m) x := rfl
theorem u16 (n : Nat) (a0 : (List Int)) (a1 : (List Int)) : R16 (n + 1) a0 a1 = r16 (R32 n) (J16_0 n n) (J16_1 n n) a0 a1 := rfl
theorem e16 : ∀ (n : Nat), g16 (evalF E n) = R16 n
  | 0 => by funext a0 a1; rfl
  | n + 1 => by
    have l1 : lq16_1 (evalF E n) n n = (iter (F16_1 (R32 n) ) n) := iter_of (g := lq16_1 (evalF E n) n) rfl (fun m y => by rw [lp16_1]; simp only [e32 n]) n
    have l0 : lq16_0 (evalF E n) n n = (iter (F16_0 (R32 n) ) n) := iter_of (g := lq16_0 (evalF E n) n) rfl (fun m y => by rw [lp16_0]; simp only [e32 n]) n
    funext a0 a1
    rw [gq16, rr16]
    simp only [e32 n, l0, l1]
    rfl
def R46 : Nat → Int → Option (Int)
  | 0, _ => none
  | n + 1, a0 => r46   a0
theorem u46 (n : Nat) (a0 : Int) : R46 (n + 1) a0 = r46   a0 := rfl
theorem e46 : ∀ (n : Nat), g46 (evalF E n) = R46 n
  | 0 => by funext a0; rfl
  | n + 1 => by
    funext a0
    rw [gq46, rr46]
    rfl
def R33 : Nat → Int → Option (Int)
  | 0, _ => none
  | n + 1, a0 => r33 (R46 n)  a0
theorem u33 (n : Nat) (a0 : Int) : R33 (n + 1) a0 = r33 (R46 n)  a0 := rfl
theorem e33 : ∀ (n : Nat), g33 (evalF E n) = R33 n
  | 0 => by funext a0; rfl
  | n + 1 => by
    funext a0
    rw [gq33, rr33]
    simp only [e46 n]
    rfl
def R17 : Nat → Int → Int → Option (Int)
  | 0, _, _ => none
  | n + 1, a0, a1 => r17 (R33 n)  a0 a1
theorem u17 (n : Nat) (a0 : Int) (a1 : Int) : R17 (n + 1) a0 a1 = r17 (R33 n)  a0 a1 := rfl
theorem e17 : ∀ (n : Nat), g17 (evalF E n) = R17 n
  | 0 => by funext a0 a1; rfl
  | n + 1 => by
    funext a0 a1
    rw [gq17, rr17]
    simp only [e33 n]
    rfl
def R4 : Nat → Int → (List Int) → (List Int) → Int → Option (Bool)
  | 0, _, _, _, _ => none
  | n + 1, a0, a1, a2, a3 => r4 (R8 n) (R9 n) (R14 n) (R15 n) (R16 n) (R17 n)  a0 a1 a2 a3
theorem u4 (n : Nat) (a0 : Int) (a1 : (List Int)) (a2 : (List Int)) (a3 : Int) : R4 (n + 1) a0 a1 a2 a3 = r4 (R8 n) (R9 n) (R14 n) (R15 n) (R16 n) (R17 n)  a0 a1 a2 a3 := rfl
theorem e4 : ∀ (n : Nat), g4 (evalF E n) = R4 n
  | 0 => by funext a0 a1 a2 a3; rfl
  | n + 1 => by
    funext a0 a1 a2 a3
    rw [gq4, rr4]
    simp only [e8 n, e9 n, e14 n, e15 n, e16 n, e17 n]
    rfl
theorem law_R (n : Nat) (a0 : Int) (a1 : (List Int)) (a2 : (List Int)) (a3 : Int) : runHow E (evalF E n) n s4 (a0, a1, a2, a3) h4 = R4 (n + 1) a0 a1 a2 a3 := (gq4 n a0 a1 a2 a3).symm.trans (congrFun (congrFun (congrFun (congrFun (e4 (n + 1)) a0) a1) a2) a3)
theorem okAll : EntriesOK Try.prog MaskX.XM 0 E.fns := ⟨trivial,
  trivial,
  trivial,
  trivial,
  ok4 MaskX.XM,
  trivial,
  trivial,
  trivial,
  ok8 MaskX.XM,
  ok9 MaskX.XM,
  ok10 MaskX.XM,
  ok11 MaskX.XM,
  ok12 MaskX.XM,
  ok13 MaskX.XM,
  ok14 MaskX.XM,
  ok15 MaskX.XM,
  ok16 MaskX.XM,
  ok17 MaskX.XM,
  trivial,
  trivial,
  trivial,
  trivial,
  trivial,
  fun _ _ _ h => MaskX.New_spec MaskX.sortC MaskX.sortN MaskX.compC MaskX.compN h,
  ok24 MaskX.XM,
  ok25 MaskX.XM,
  fun _ _ _ h => MaskX.Of_spec h,
  ok27 MaskX.XM,
  ok28 MaskX.XM,
  ok29 MaskX.XM,
  ok30 MaskX.XM,
  ok31 MaskX.XM,
  fun _ _ _ h => GridY.Ahead_spec MaskX.XM_ok h,
  ok33 MaskX.XM,
  trivial,
  trivial,
  trivial,
  trivial,
  ok38 MaskX.XM,
  ok39 MaskX.XM,
  ok40 MaskX.XM,
  ok41 MaskX.XM,
  ok42 MaskX.XM,
  ok43 MaskX.XM,
  ok44 MaskX.XM,
  trivial,
  ok46 MaskX.XM,
  trivial,
  trivial,
  ok49 MaskX.XM,
  ok50 MaskX.XM,
  ok51 MaskX.XM,
  ok52 MaskX.XM,
  ok53 MaskX.XM,
  ok54 MaskX.XM,
  trivial,
  trivial,
  trivial,
  trivial,
  trivial,
  trivial,
  trivial,
  trivial,
  trivial,
  trivial,
  trivial,
  fun _ _ _ h => Add64_spec MaskX.XM h,
  fun _ _ _ h => Sub64_spec MaskX.XM h, trivial⟩
theorem mixed : Try.prog.follows .mixedOrders = true := by kernel_rfl
theorem calls (n : Nat) : CallOK Try.prog MaskX.XM E (evalF E n) := evalF_sound MaskX.XM_ok tys mixed (entries_fn okAll) n
end Go.Proofs.Ytbbbcdfagmcfgaa.EWalkRuns
