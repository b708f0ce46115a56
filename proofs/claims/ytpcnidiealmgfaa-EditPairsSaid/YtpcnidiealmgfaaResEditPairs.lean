import Derived.Test.YtpcnidiealmgfaaProg
import Derived.Test.YtpcnidiealmgfaaAeB
import Derived.Test.YtpcnidiealmgfaaNameC
import Derived.Test.YtpcnidiealmgfaaNameR
import Derived.Test.YtpcnidiealmgfaaNameX
namespace Go.Proofs.Ytpcnidiealmgfaa.EEditPairs
open Go Go.Proofs.Ytpcnidiealmgfaa.AE
set_option maxRecDepth 100000
set_option linter.unusedVariables false
-- tatting/tattinglaw24.EditPairs
noncomputable def c6 : Code := match Try.f6.body with | some c => c | none => .skip
def s6 : Sig := ⟨⟨[.dat (.int .i64), .dat (.slice (.pair (.int .i64) (.pair (.slice (.slice (.int .u8))) (.one (.slice (.slice (.int .u8)))))))], []⟩, ⟨[.dat .bool], []⟩⟩
def hs6 : List (List Nat × LH) := []
noncomputable def h6 : How s6 := .code Try.f6 c6 hs6
-- tatting/edit.Make
noncomputable def c8 : Code := match Try.f8.body with | some c => c | none => .skip
def s8 : Sig := ⟨⟨[.dat (.slice (.slice (.int .u8))), .dat (.slice (.slice (.int .u8))), .dat (.slice (.pair (.int .i64) (.one (.int .i64))))], []⟩, ⟨[.dat (.slice (.pair (.int .i64) (.pair (.slice (.slice (.int .u8))) (.one (.slice (.slice (.int .u8))))))), .dat (.int .i64)], []⟩⟩
def hs8 : List (List Nat × LH) := [([0, 1, 0, 1, 1, 1, 1, 1, 1], ⟨[3, 4, 11, 14, 30, 31, 32], ⟨[.ptr 0 0, .ptr 1 0, .ptr 2 0, .fnc 26 [3, 4, 2, 0, 1], .dat (.slice (.pair (.int .i64) (.one (.int .i64)))), .dat (.int .i64), .dat (.int .i64)], [.var (.slice (.slice (.int .u8))), .var (.slice (.slice (.int .u8))), .vrow (.pair (.int .i64) (.pair (.slice (.slice (.int .u8))) (.one (.slice (.slice (.int .u8)))))), .var (.int .i64), .var (.int .i64)]⟩, 0⟩)]
noncomputable def h8 : How s8 := .code Try.f8 c8 hs8
-- tatting/edit.Pairs
noncomputable def c9 : Code := match Try.f9.body with | some c => c | none => .skip
def s9 : Sig := ⟨⟨[.dat (.int .i64), .dat (.slice (.pair (.int .i64) (.pair (.slice (.slice (.int .u8))) (.one (.slice (.slice (.int .u8)))))))], []⟩, ⟨[.dat (.slice (.pair (.int .i64) (.one (.int .i64)))), .dat (.int .i64)], []⟩⟩
def hs9 : List (List Nat × LH) := [([0, 1, 0, 1, 1, 1, 1, 1], ⟨[0, 6, 7, 8, 9, 24, 25, 26], ⟨[.dat (.int .i64), .ptr 0 0, .ptr 1 0, .ptr 2 0, .fnc 28 [1, 2, 0], .dat (.slice (.pair (.int .i64) (.pair (.slice (.slice (.int .u8))) (.one (.slice (.slice (.int .u8))))))), .dat (.int .i64), .dat (.int .i64)], [.vrow (.pair (.int .i64) (.one (.int .i64))), .var (.int .i64), .var (.int .i64)]⟩, 0⟩)]
noncomputable def h9 : How s9 := .code Try.f9 c9 hs9
-- tatting/tattinglaw24.awake
noncomputable def c10 : Code := match Try.f10.body with | some c => c | none => .skip
def s10 : Sig := ⟨⟨[], []⟩, ⟨[.dat .bool], []⟩⟩
def hs10 : List (List Nat × LH) := []
noncomputable def h10 : How s10 := .code Try.f10 c10 hs10
-- tatting/edit.Good
noncomputable def c11 : Code := match Try.f11.body with | some c => c | none => .skip
def s11 : Sig := ⟨⟨[.dat (.slice (.pair (.int .i64) (.pair (.slice (.slice (.int .u8))) (.one (.slice (.slice (.int .u8)))))))], []⟩, ⟨[.dat .bool], []⟩⟩
def hs11 : List (List Nat × LH) := [([0, 1, 0, 1, 1], ⟨[3, 6, 7, 8], ⟨[.dat (.int .i64), .dat (.slice (.pair (.int .i64) (.pair (.slice (.slice (.int .u8))) (.one (.slice (.slice (.int .u8))))))), .dat (.int .i64), .dat (.int .i64)], []⟩, 0⟩)]
noncomputable def h11 : How s11 := .code Try.f11 c11 hs11
-- tatting/tattingref1.SamePairs
noncomputable def c12 : Code := match Try.f12.body with | some c => c | none => .skip
def s12 : Sig := ⟨⟨[.dat (.slice (.pair (.int .i64) (.one (.int .i64)))), .dat (.slice (.pair (.int .i64) (.one (.int .i64))))], []⟩, ⟨[.dat .bool], []⟩⟩
def hs12 : List (List Nat × LH) := [([0, 1, 0, 1, 1], ⟨[0, 1, 5], ⟨[.dat (.slice (.pair (.int .i64) (.one (.int .i64)))), .dat (.slice (.pair (.int .i64) (.one (.int .i64)))), .dat (.int .i64)], []⟩, 0⟩)]
noncomputable def h12 : How s12 := .code Try.f12 c12 hs12
-- tatting/tattinglaw24.few
noncomputable def c13 : Code := match Try.f13.body with | some c => c | none => .skip
def s13 : Sig := ⟨⟨[.dat (.slice (.slice (.int .u8)))], []⟩, ⟨[.dat .bool], []⟩⟩
def hs13 : List (List Nat × LH) := [([0, 1, 0, 1, 1], ⟨[0, 3], ⟨[.dat (.slice (.slice (.int .u8))), .dat (.int .i64)], []⟩, 0⟩)]
noncomputable def h13 : How s13 := .code Try.f13 c13 hs13
-- tatting/tattinglaw24.small
noncomputable def c16 : Code := match Try.f16.body with | some c => c | none => .skip
def s16 : Sig := ⟨⟨[.dat (.slice (.pair (.int .i64) (.pair (.slice (.slice (.int .u8))) (.one (.slice (.slice (.int .u8)))))))], []⟩, ⟨[.dat .bool], []⟩⟩
def hs16 : List (List Nat × LH) := [([0, 1, 0, 1, 1], ⟨[0, 3], ⟨[.dat (.slice (.pair (.int .i64) (.pair (.slice (.slice (.int .u8))) (.one (.slice (.slice (.int .u8))))))), .dat (.int .i64)], []⟩, 0⟩)]
noncomputable def h16 : How s16 := .code Try.f16 c16 hs16
-- tatting/edit.Count
noncomputable def c17 : Code := match Try.f17.body with | some c => c | none => .skip
def s17 : Sig := ⟨⟨[.dat (.slice (.pair (.int .i64) (.pair (.slice (.slice (.int .u8))) (.one (.slice (.slice (.int .u8)))))))], []⟩, ⟨[.dat (.int .i64), .dat (.int .i64)], []⟩⟩
def hs17 : List (List Nat × LH) := [([0, 1, 0, 1], ⟨[2, 3, 6, 7, 8], ⟨[.dat (.int .i64), .dat (.int .i64), .dat (.slice (.pair (.int .i64) (.pair (.slice (.slice (.int .u8))) (.one (.slice (.slice (.int .u8))))))), .dat (.int .i64), .dat (.int .i64)], []⟩, 0⟩)]
noncomputable def h17 : How s17 := .code Try.f17 c17 hs17
-- tatting/tattingref24.Good
noncomputable def c19 : Code := match Try.f19.body with | some c => c | none => .skip
def s19 : Sig := ⟨⟨[.dat (.slice (.pair (.int .i64) (.pair (.slice (.slice (.int .u8))) (.one (.slice (.slice (.int .u8)))))))], []⟩, ⟨[.dat .bool], []⟩⟩
def hs19 : List (List Nat × LH) := [([0, 1, 0, 1], ⟨[0, 3], ⟨[.dat (.slice (.pair (.int .i64) (.pair (.slice (.slice (.int .u8))) (.one (.slice (.slice (.int .u8))))))), .dat (.int .i64)], []⟩, 0⟩), ([0, 1, 0, 1, 1, 1, 0, 0, 1, 0, 0, 1, 0, 1], ⟨[0, 3, 4, 5], ⟨[.dat (.slice (.pair (.int .i64) (.pair (.slice (.slice (.int .u8))) (.one (.slice (.slice (.int .u8))))))), .dat (.int .i64), .ptr 0 0, .dat (.int .i64)], [.var (.pair (.int .i64) (.pair (.slice (.slice (.int .u8))) (.one (.slice (.slice (.int .u8))))))]⟩, 2⟩), ([0, 1, 1, 1, 1, 1, 0, 0, 1, 0, 0, 1, 0, 1], ⟨[0, 3, 4, 6], ⟨[.dat (.slice (.pair (.int .i64) (.pair (.slice (.slice (.int .u8))) (.one (.slice (.slice (.int .u8))))))), .dat (.int .i64), .ptr 0 0, .dat (.int .i64)], [.var (.pair (.int .i64) (.pair (.slice (.slice (.int .u8))) (.one (.slice (.slice (.int .u8))))))]⟩, 4⟩)]
noncomputable def h19 : How s19 := .code Try.f19 c19 hs19
-- tatting/tattingref24.Pairs
noncomputable def c20 : Code := match Try.f20.body with | some c => c | none => .skip
def s20 : Sig := ⟨⟨[.dat (.int .i64), .dat (.slice (.pair (.int .i64) (.pair (.slice (.slice (.int .u8))) (.one (.slice (.slice (.int .u8)))))))], []⟩, ⟨[.dat (.slice (.pair (.int .i64) (.one (.int .i64)))), .dat (.int .i64)], []⟩⟩
def hs20 : List (List Nat × LH) := [([0, 0, 1, 1, 1, 0, 0, 1, 0, 0, 1, 0, 1, 1, 1, 1], ⟨[0, 1, 6, 7, 8, 9, 10], ⟨[.dat (.int .i64), .dat (.slice (.pair (.int .i64) (.pair (.slice (.slice (.int .u8))) (.one (.slice (.slice (.int .u8))))))), .ref 0, .dat (.int .i64), .dat (.int .i64), .dat (.int .i64), .dat (.int .i64)], [.row (.pair (.int .i64) (.one (.int .i64)))]⟩, 2⟩), ([0, 1, 0, 1, 1, 1, 1], ⟨[0, 1, 6, 7, 8, 9], ⟨[.dat (.int .i64), .dat (.slice (.pair (.int .i64) (.pair (.slice (.slice (.int .u8))) (.one (.slice (.slice (.int .u8))))))), .ref 0, .dat (.int .i64), .dat (.int .i64), .dat (.int .i64)], [.row (.pair (.int .i64) (.one (.int .i64)))]⟩, 0⟩)]
noncomputable def h20 : How s20 := .code Try.f20 c20 hs20
-- tatting/names.Two
noncomputable def c24 : Code := match Try.f24.body with | some c => c | none => .skip
def s24 : Sig := ⟨⟨[.dat (.slice (.slice (.int .u8))), .dat (.slice (.slice (.int .u8)))], []⟩, ⟨[.dat (.slice (.int .i64)), .dat (.slice (.int .i64)), .dat (.int .i64)], []⟩⟩
def hs24 : List (List Nat × LH) := []
noncomputable def h24 : How s24 := .code Try.f24 c24 hs24
-- tatting/pairs.Good
noncomputable def c25 : Code := match Try.f25.body with | some c => c | none => .skip
def s25 : Sig := ⟨⟨[.dat (.slice (.int .i64)), .dat (.slice (.int .i64)), .dat (.slice (.pair (.int .i64) (.one (.int .i64))))], []⟩, ⟨[.dat .bool], []⟩⟩
def hs25 : List (List Nat × LH) := [([0, 1, 0, 1, 1], ⟨[0, 1, 7, 11, 12, 13], ⟨[.dat (.slice (.int .i64)), .dat (.slice (.int .i64)), .ptr 0 0, .dat (.slice (.pair (.int .i64) (.one (.int .i64)))), .dat (.int .i64), .dat (.int .i64)], [.var (.pair (.int .i64) (.one (.int .i64)))]⟩, 0⟩)]
noncomputable def h25 : How s25 := .code Try.f25 c25 hs25
-- tatting/edit.Make$1
noncomputable def c26 : Code := match Try.f26.body with | some c => c | none => .skip
def s26 : Sig := ⟨⟨[.dat (.int .i64), .dat (.int .i64), .ptr 0 0, .ptr 1 0, .ptr 2 0, .ptr 3 0, .ptr 4 0], [.var (.int .i64), .var (.int .i64), .vrow (.pair (.int .i64) (.pair (.slice (.slice (.int .u8))) (.one (.slice (.slice (.int .u8)))))), .var (.slice (.slice (.int .u8))), .var (.slice (.slice (.int .u8)))]⟩, ⟨[], [.var (.int .i64), .var (.int .i64), .vrow (.pair (.int .i64) (.pair (.slice (.slice (.int .u8))) (.one (.slice (.slice (.int .u8)))))), .var (.slice (.slice (.int .u8))), .var (.slice (.slice (.int .u8)))]⟩⟩
def hs26 : List (List Nat × LH) := []
noncomputable def h26 : How s26 := .code Try.f26 c26 hs26
-- tatting/edit.tokens
noncomputable def c27 : Code := match Try.f27.body with | some c => c | none => .skip
def s27 : Sig := ⟨⟨[.dat (.slice (.slice (.int .u8)))], []⟩, ⟨[.dat (.slice (.slice (.int .u8)))], []⟩⟩
def hs27 : List (List Nat × LH) := [([0, 1, 0, 1, 1], ⟨[3, 6, 7, 8], ⟨[.ref 0, .dat (.slice (.slice (.int .u8))), .dat (.int .i64), .dat (.int .i64)], [.row (.slice (.int .u8))]⟩, 0⟩)]
noncomputable def h27 : How s27 := .code Try.f27 c27 hs27
-- tatting/edit.Pairs$1
noncomputable def c28 : Code := match Try.f28.body with | some c => c | none => .skip
def s28 : Sig := ⟨⟨[.dat (.int .i64), .ptr 0 0, .ptr 1 0, .ptr 2 0], [.var (.int .i64), .var (.int .i64), .vrow (.pair (.int .i64) (.one (.int .i64)))]⟩, ⟨[], [.var (.int .i64), .var (.int .i64), .vrow (.pair (.int .i64) (.one (.int .i64)))]⟩⟩
def hs28 : List (List Nat × LH) := [([0], ⟨[0, 1, 2, 3], ⟨[.dat (.int .i64), .ptr 0 0, .ptr 1 0, .ptr 2 0], [.var (.int .i64), .var (.int .i64), .vrow (.pair (.int .i64) (.one (.int .i64)))]⟩, 0⟩)]
noncomputable def h28 : How s28 := .code Try.f28 c28 hs28
-- tatting/edit.all
noncomputable def c29 : Code := match Try.f29.body with | some c => c | none => .skip
def s29 : Sig := ⟨⟨[.dat (.slice (.slice (.int .u8)))], []⟩, ⟨[.dat .bool], []⟩⟩
def hs29 : List (List Nat × LH) := [([0, 1, 0, 1], ⟨[5, 6, 7], ⟨[.dat (.slice (.slice (.int .u8))), .dat (.int .i64), .dat (.int .i64)], []⟩, 0⟩)]
noncomputable def h29 : How s29 := .code Try.f29 c29 hs29
-- tatting/names.Sort
noncomputable def c35 : Code := match Try.f35.body with | some c => c | none => .skip
def s35 : Sig := ⟨⟨[.dat (.slice (.slice (.int .u8)))], []⟩, ⟨[.dat (.slice (.slice (.int .u8)))], []⟩⟩
def hs35 : List (List Nat × LH) := [([0, 1, 0, 1, 1, 1, 1, 1], ⟨[4, 16, 17, 18], ⟨[.ref 0, .ref 1, .dat (.int .i64), .dat (.int .i64)], [.row (.slice (.int .u8)), .row (.slice (.int .u8))]⟩, 0⟩)]
noncomputable def h35 : How s35 := .code Try.f35 c35 hs35
-- slices.Concat[[][]byte,[]byte]
noncomputable def c36 : Code := match Try.f36.body with | some c => c | none => .skip
def s36 : Sig := ⟨⟨[.dat (.slice (.slice (.slice (.int .u8))))], []⟩, ⟨[.dat (.slice (.slice (.int .u8)))], []⟩⟩
def hs36 : List (List Nat × LH) := [([0, 1, 0, 1, 1], ⟨[0, 3, 9, 10, 11], ⟨[.dat (.slice (.slice (.slice (.int .u8)))), .dat (.int .i64), .dat (.slice (.slice (.slice (.int .u8)))), .dat (.int .i64), .dat (.int .i64)], []⟩, 0⟩), ([0, 1, 0, 1, 1, 1, 1], ⟨[6, 25, 26, 27], ⟨[.ref 0, .dat (.slice (.slice (.slice (.int .u8)))), .dat (.int .i64), .dat (.int .i64)], [.row (.slice (.int .u8))]⟩, 2⟩)]
noncomputable def h36 : How s36 := .code Try.f36 c36 hs36
-- tatting/names.Ids
noncomputable def c37 : Code := match Try.f37.body with | some c => c | none => .skip
def s37 : Sig := ⟨⟨[.dat (.slice (.slice (.int .u8))), .dat (.slice (.slice (.int .u8)))], []⟩, ⟨[.dat (.slice (.int .i64)), .dat .bool], []⟩⟩
def hs37 : List (List Nat × LH) := [([0, 1, 0, 1, 1], ⟨[0, 6, 14, 15, 16], ⟨[.dat (.slice (.slice (.int .u8))), .ref 0, .dat (.slice (.slice (.int .u8))), .dat (.int .i64), .dat (.int .i64)], [.row (.int .i64)]⟩, 0⟩)]
noncomputable def h37 : How s37 := .code Try.f37 c37 hs37
-- tatting/pairs.is
noncomputable def c38 : Code := match Try.f38.body with | some c => c | none => .skip
def s38 : Sig := ⟨⟨[.dat (.slice (.int .i64)), .dat (.int .i64)], []⟩, ⟨[.dat .bool], []⟩⟩
def hs38 : List (List Nat × LH) := []
noncomputable def h38 : How s38 := .code Try.f38 c38 hs38
-- bytes.Compare
noncomputable def c45 : Code := match Try.f45.body with | some c => c | none => .skip
def s45 : Sig := ⟨⟨[.dat (.slice (.int .u8)), .dat (.slice (.int .u8))], []⟩, ⟨[.dat (.int .i64)], []⟩⟩
def hs45 : List (List Nat × LH) := []
noncomputable def h45 : How s45 := .code Try.f45 c45 hs45
-- tatting/names.Find
noncomputable def c49 : Code := match Try.f49.body with | some c => c | none => .skip
def s49 : Sig := ⟨⟨[.dat (.slice (.slice (.int .u8))), .dat (.slice (.int .u8))], []⟩, ⟨[.dat (.int .i64), .dat .bool], []⟩⟩
def hs49 : List (List Nat × LH) := []
noncomputable def h49 : How s49 := .code Try.f49 c49 hs49
-- slices.BinarySearchFunc[[][]byte,[]byte,[]byte]
noncomputable def c53 : Code := match Try.f53.body with | some c => c | none => .skip
def s53 : Sig := ⟨⟨[.dat (.slice (.slice (.int .u8))), .dat (.slice (.int .u8)), .fnc 45 []], []⟩, ⟨[.dat (.int .i64), .dat .bool], []⟩⟩
def hs53 : List (List Nat × LH) := [([0, 0, 1, 1, 1], ⟨[0, 1, 2, 8, 9, 10], ⟨[.dat (.slice (.slice (.int .u8))), .dat (.slice (.int .u8)), .fnc 45 [], .dat (.int .i64), .dat (.int .i64), .dat (.int .i64)], []⟩, 0⟩)]
noncomputable def h53 : How s53 := .code Try.f53 c53 hs53
-- bytes.Clone
def s39 : Sig := ⟨⟨[.dat (.slice (.int .u8))], []⟩, ⟨[.dat (.slice (.int .u8))], []⟩⟩
def h39 : How s39 := .orc (fun _ x => NameX.cloneB x)
-- slices.Clone[[][]byte,[]byte]
def s43 : Sig := ⟨⟨[.dat (.slice (.slice (.int .u8)))], []⟩, ⟨[.ref 0], [.row (.slice (.int .u8))]⟩⟩
def h43 : How s43 := .orc (fun _ x => NameX.cloneR x)
-- slices.SortFunc[[][]byte,[]byte]
def s44 : Sig := ⟨⟨[.ref 0, .fnc 45 []], [.row (.slice (.int .u8))]⟩, ⟨[], [.row (.slice (.int .u8))]⟩⟩
def h44 : How s44 := .orc (fun _ x => NameX.sortR x)
-- slices.CompactFunc[[][]byte,[]byte]
def s46 : Sig := ⟨⟨[.ref 0, .fnc 47 []], [.row (.slice (.int .u8))]⟩, ⟨[.ref 1], [.dead, .row (.slice (.int .u8))]⟩⟩
def h46 : How s46 := .orc (fun _ x => NameX.compactR x)
-- slices.Grow[[][]byte,[]byte]
def s48 : Sig := ⟨⟨[.ref 0, .dat (.int .i64)], [.row (.slice (.int .u8))]⟩, ⟨[.ref 1], [.dead, .row (.slice (.int .u8))]⟩⟩
def h48 : How s48 := .orc (fun _ x => NameX.growR x)
-- internal/bytealg.Compare
def s52 : Sig := ⟨⟨[.dat (.slice (.int .u8)), .dat (.slice (.int .u8))], []⟩, ⟨[.dat (.int .i64)], []⟩⟩
def h52 : How s52 := .orc (fun _ x => NameX.cmpB x)
noncomputable def E : Env := {
  fns := [⟨Sig.none, .none⟩,
    ⟨Sig.none, .none⟩,
    ⟨Sig.none, .none⟩,
    ⟨Sig.none, .none⟩,
    ⟨Sig.none, .none⟩,
    ⟨Sig.none, .none⟩,
    ⟨s6, h6⟩,
    ⟨Sig.none, .none⟩,
    ⟨s8, h8⟩,
    ⟨s9, h9⟩,
    ⟨s10, h10⟩,
    ⟨s11, h11⟩,
    ⟨s12, h12⟩,
    ⟨s13, h13⟩,
    ⟨Sig.none, .none⟩,
    ⟨Sig.none, .none⟩,
    ⟨s16, h16⟩,
    ⟨s17, h17⟩,
    ⟨Sig.none, .none⟩,
    ⟨s19, h19⟩,
    ⟨s20, h20⟩,
    ⟨Sig.none, .none⟩,
    ⟨Sig.none, .none⟩,
    ⟨Sig.none, .none⟩,
    ⟨s24, h24⟩,
    ⟨s25, h25⟩,
    ⟨s26, h26⟩,
    ⟨s27, h27⟩,
    ⟨s28, h28⟩,
    ⟨s29, h29⟩,
    ⟨Sig.none, .none⟩,
    ⟨Sig.none, .none⟩,
    ⟨Sig.none, .none⟩,
    ⟨Sig.none, .none⟩,
    ⟨Sig.none, .none⟩,
    ⟨s35, h35⟩,
    ⟨s36, h36⟩,
    ⟨s37, h37⟩,
    ⟨s38, h38⟩,
    ⟨s39, h39⟩,
    ⟨Sig.none, .none⟩,
    ⟨Sig.none, .none⟩,
    ⟨Sig.none, .none⟩,
    ⟨s43, h43⟩,
    ⟨s44, h44⟩,
    ⟨s45, h45⟩,
    ⟨s46, h46⟩,
    ⟨Sig.none, .none⟩,
    ⟨s48, h48⟩,
    ⟨s49, h49⟩,
    ⟨Sig.none, .none⟩,
    ⟨Sig.none, .none⟩,
    ⟨s52, h52⟩,
    ⟨s53, h53⟩],
  tys := [none,
    none,
    some ⟨(.int .i64), 0⟩,
    some ⟨(.int .i64), 0⟩,
    some ⟨.bool, 0⟩,
    none,
    none,
    none,
    none,
    some ⟨.str, 0⟩,
    none,
    none,
    none,
    none,
    none,
    none,
    none,
    none,
    none,
    none,
    none,
    none,
    some ⟨(.slice (.int .u8)), 1⟩,
    some ⟨(.slice (.slice (.int .u8))), 24⟩,
    some ⟨(.slice (.pair (.int .i64) (.pair (.slice (.slice (.int .u8))) (.one (.slice (.slice (.int .u8))))))), 56⟩,
    some ⟨(.int .i64), 0⟩,
    none,
    none,
    none,
    some ⟨(.pair (.int .i64) (.one (.int .i64))), 1⟩,
    some ⟨(.slice (.pair (.int .i64) (.one (.int .i64)))), 16⟩,
    none,
    some ⟨(.pair (.int .i64) (.pair (.slice (.slice (.int .u8))) (.one (.slice (.slice (.int .u8)))))), 0⟩,
    none,
    none,
    none,
    none,
    none,
    none,
    none,
    none,
    none,
    none,
    none,
    some ⟨(.slice (.int .i64)), 8⟩,
    none,
    none,
    none,
    none,
    none,
    none,
    none,
    none,
    none,
    none,
    none,
    none,
    none,
    none,
    none,
    none,
    none,
    none,
    none,
    none,
    none,
    none,
    some ⟨(.slice (.slice (.slice (.int .u8)))), 24⟩,
    none,
    none,
    none,
    some ⟨(.int .u64), 0⟩,
    none,
    none,
    none,
    none,
    none,
    none,
    none,
    none,
    none,
    none,
    none,
    none,
    none,
    none,
    none,
    none,
    none,
    none,
    none,
    none,
    none,
    none,
    none,
    none,
    none,
    none,
    none,
    none,
    none,
    none,
    none,
    none,
    none,
    none,
    none,
    none],
  vrs := [24, 30] }
theorem tys : tysOK Try.prog E.tys = true := by decide +kernel
theorem ok6 (X : ExtRep) : EntryOK Try.prog X 6 s6 h6 := ⟨Try.func6, rfl, by decide, by decide⟩
theorem ok8 (X : ExtRep) : EntryOK Try.prog X 8 s8 h8 := ⟨Try.func8, rfl, by decide, by decide⟩
theorem ok9 (X : ExtRep) : EntryOK Try.prog X 9 s9 h9 := ⟨Try.func9, rfl, by decide, by decide⟩
theorem ok10 (X : ExtRep) : EntryOK Try.prog X 10 s10 h10 := ⟨Try.func10, rfl, by decide, by decide⟩
theorem ok11 (X : ExtRep) : EntryOK Try.prog X 11 s11 h11 := ⟨Try.func11, rfl, by decide, by decide⟩
theorem ok12 (X : ExtRep) : EntryOK Try.prog X 12 s12 h12 := ⟨Try.func12, rfl, by decide, by decide⟩
theorem ok13 (X : ExtRep) : EntryOK Try.prog X 13 s13 h13 := ⟨Try.func13, rfl, by decide, by decide⟩
theorem ok16 (X : ExtRep) : EntryOK Try.prog X 16 s16 h16 := ⟨Try.func16, rfl, by decide, by decide⟩
theorem ok17 (X : ExtRep) : EntryOK Try.prog X 17 s17 h17 := ⟨Try.func17, rfl, by decide, by decide⟩
theorem ok19 (X : ExtRep) : EntryOK Try.prog X 19 s19 h19 := ⟨Try.func19, rfl, by decide, by decide⟩
theorem ok20 (X : ExtRep) : EntryOK Try.prog X 20 s20 h20 := ⟨Try.func20, rfl, by decide, by decide⟩
theorem ok24 (X : ExtRep) : EntryOK Try.prog X 24 s24 h24 := ⟨Try.func24, rfl, by decide, by decide⟩
theorem ok25 (X : ExtRep) : EntryOK Try.prog X 25 s25 h25 := ⟨Try.func25, rfl, by decide, by decide⟩
theorem ok26 (X : ExtRep) : EntryOK Try.prog X 26 s26 h26 := ⟨Try.func26, rfl, by decide, by decide⟩
theorem ok27 (X : ExtRep) : EntryOK Try.prog X 27 s27 h27 := ⟨Try.func27, rfl, by decide, by decide⟩
theorem ok28 (X : ExtRep) : EntryOK Try.prog X 28 s28 h28 := ⟨Try.func28, rfl, by decide, by decide⟩
theorem ok29 (X : ExtRep) : EntryOK Try.prog X 29 s29 h29 := ⟨Try.func29, rfl, by decide, by decide⟩
theorem ok35 (X : ExtRep) : EntryOK Try.prog X 35 s35 h35 := ⟨Try.func35, rfl, by decide, by decide⟩
theorem ok36 (X : ExtRep) : EntryOK Try.prog X 36 s36 h36 := ⟨Try.func36, rfl, by decide, by decide⟩
theorem ok37 (X : ExtRep) : EntryOK Try.prog X 37 s37 h37 := ⟨Try.func37, rfl, by decide, by decide⟩
theorem ok38 (X : ExtRep) : EntryOK Try.prog X 38 s38 h38 := ⟨Try.func38, rfl, by decide, by decide⟩
theorem ok45 (X : ExtRep) : EntryOK Try.prog X 45 s45 h45 := ⟨Try.func45, rfl, by decide, by decide⟩
theorem ok49 (X : ExtRep) : EntryOK Try.prog X 49 s49 h49 := ⟨Try.func49, rfl, by decide, by decide⟩
theorem ok53 (X : ExtRep) : EntryOK Try.prog X 53 s53 h53 := ⟨Try.func53, rfl, by decide, by decide⟩
-- tatting/tattinglaw24.EditPairs
def r6 (f9 : Int → (List (Int × ((List (List Int)) × (List (List Int))))) → Option ((List (Int × Int)) × Int)) (f10 : Unit → Option (Bool)) (f12 : (List (Int × Int)) → (List (Int × Int)) → Option (Bool)) (f16 : (List (Int × ((List (List Int)) × (List (List Int))))) → Option (Bool)) (f20 : Int → (List (Int × ((List (List Int)) × (List (List Int))))) → Option ((List (Int × Int)) × Int)) (a0 : Int) (a1 : (List (Int × ((List (List Int)) × (List (List Int)))))) : Option (Bool) :=
Option.bind (f10 ()) fun y1 =>
let v2 : Bool := !y1
bif v2 then
some false
else
Option.bind (f16 a1) fun y3 =>
let v4 : Bool := !y3
bif v4 == false then
let v5 : Bool := decide (a0 > (200 : Int))
bif v5 == true then
let v6 : Bool := decide (a0 ≤ (1048576 : Int))
bif v6 then
some true
else
Option.bind (f9 a0 a1) fun y7 =>
Option.bind (f20 a0 a1) fun y8 =>
let v9 : Bool := decide (y7.2 = y8.2)
bif v9 == true then
Option.bind (f12 y7.1 y8.1) fun y10 =>
some y10
else
some false
else
Option.bind (f9 a0 a1) fun y11 =>
Option.bind (f20 a0 a1) fun y12 =>
let v13 : Bool := decide (y11.2 = y12.2)
bif v13 == true then
Option.bind (f12 y11.1 y12.1) fun y14 =>
some y14
else
some false
else
some true
-- tatting/edit.Make
def F8_0 (f24 : (List (List Int)) → (List (List Int)) → Option ((List Int) × (List Int) × Int)) (f25 : (List Int) → (List Int) → (List (Int × Int)) → Option (Bool)) (f26 : Int → Int → Int → Int → (List (Int × ((List (List Int)) × (List (List Int))))) → (List (List Int)) → (List (List Int)) → Option (Int × Int × (List (Int × ((List (List Int)) × (List (List Int))))) × (List (List Int)) × (List (List Int)))) (self : ((List (Int × Int)) × Int × Int × (List (List Int)) × (List (List Int)) × (List (Int × ((List (List Int)) × (List (List Int))))) × Int × Int) → Option (((List (Int × Int)) × Int × Int × (List (List Int)) × (List (List Int)) × (List (Int × ((List (List Int)) × (List (List Int))))) × Int × Int) ⊕ ((List (Int × ((List (List Int)) × (List (List Int))))) × Int))) (z7 : (List (Int × Int)) × Int × Int × (List (List Int)) × (List (List Int)) × (List (Int × ((List (List Int)) × (List (List Int))))) × Int × Int) : Option (((List (Int × Int)) × Int × Int × (List (List Int)) × (List (List Int)) × (List (Int × ((List (List Int)) × (List (List Int))))) × Int × Int) ⊕ ((List (Int × ((List (List Int)) × (List (List Int))))) × Int)) :=
let v8 : Bool := decide (z7.2.2.1 < z7.2.1)
bif v8 then
if 0 ≤ z7.2.2.1 ∧ z7.2.2.1 < (z7.1.length : Int) then
let v9 : (Int × Int) := z7.1.getD z7.2.2.1.toNat ((0 : Int), (0 : Int))
Option.bind (f26 v9.1 v9.2 z7.2.2.2.2.2.2.1 z7.2.2.2.2.2.2.2 z7.2.2.2.2.2.1 z7.2.2.2.1 z7.2.2.2.2.1) fun y10 =>
let v11 : Int := IntKind.wrap .i64 (z7.2.2.1 + (1 : Int))
self (z7.1, z7.2.1, v11, y10.2.2.2.1, y10.2.2.2.2, y10.2.2.1, y10.1, y10.2.1)
else none
else
some (.inl (z7.1, z7.2.1, z7.2.2.1, z7.2.2.2.1, z7.2.2.2.2.1, z7.2.2.2.2.2.1, z7.2.2.2.2.2.2.1, z7.2.2.2.2.2.2.2))
def r8 (f24 : (List (List Int)) → (List (List Int)) → Option ((List Int) × (List Int) × Int)) (f25 : (List Int) → (List Int) → (List (Int × Int)) → Option (Bool)) (f26 : Int → Int → Int → Int → (List (Int × ((List (List Int)) × (List (List Int))))) → (List (List Int)) → (List (List Int)) → Option (Int × Int × (List (Int × ((List (List Int)) × (List (List Int))))) × (List (List Int)) × (List (List Int)))) (lp0 : ((List (Int × Int)) × Int × Int × (List (List Int)) × (List (List Int)) × (List (Int × ((List (List Int)) × (List (List Int))))) × Int × Int) → Option (((List (Int × Int)) × Int × Int × (List (List Int)) × (List (List Int)) × (List (Int × ((List (List Int)) × (List (List Int))))) × Int × Int) ⊕ ((List (Int × ((List (List Int)) × (List (List Int))))) × Int))) (a0 : (List (List Int))) (a1 : (List (List Int))) (a2 : (List (Int × Int))) : Option ((List (Int × ((List (List Int)) × (List (List Int))))) × Int) :=
Option.bind (f24 a0 a1) fun y1 =>
Option.bind (f25 y1.1 y1.2.1 a2) fun y2 =>
let v3 : Bool := !y2
bif v3 then
some (([] : List (Int × ((List (List Int)) × (List (List Int))))), (1 : Int))
else
let v4 : Int := (a2.length : Int)
Option.bind (lp0 (a2, v4, (0 : Int), a0, a1, ([] : List (Int × ((List (List Int)) × (List (List Int))))), (0 : Int), (0 : Int))) fun s5 => onSum s5 (fun y6 =>
let v13 : Int := (y6.2.2.2.1.length : Int)
let v14 : Int := (y6.2.2.2.2.1.length : Int)
Option.bind (f26 v13 v14 y6.2.2.2.2.2.2.1 y6.2.2.2.2.2.2.2 y6.2.2.2.2.2.1 y6.2.2.2.1 y6.2.2.2.2.1) fun y15 =>
some (y15.2.2.1, (0 : Int))) (fun o12 => some o12)
-- tatting/edit.Pairs
def F9_0 (f11 : (List (Int × ((List (List Int)) × (List (List Int))))) → Option (Bool)) (f28 : Int → Int → Int → (List (Int × Int)) → Option (Int × Int × (List (Int × Int)))) (self : (Int × (List (Int × ((List (List Int)) × (List (List Int))))) × Int × Int × (List (Int × Int)) × Int × Int) → Option ((Int × (List (Int × ((List (List Int)) × (List (List Int))))) × Int × Int × (List (Int × Int)) × Int × Int) ⊕ ((List (Int × Int)) × Int))) (z8 : Int × (List (Int × ((List (List Int)) × (List (List Int))))) × Int × Int × (List (Int × Int)) × Int × Int) : Option ((Int × (List (Int × ((List (List Int)) × (List (List Int))))) × Int × Int × (List (Int × Int)) × Int × Int) ⊕ ((List (Int × Int)) × Int)) :=
let v9 : Bool := decide (z8.2.2.2.1 < z8.2.2.1)
bif v9 then
if 0 ≤ z8.2.2.2.1 ∧ z8.2.2.2.1 < (z8.2.1.length : Int) then
let v10 : (Int × ((List (List Int)) × (List (List Int)))) := z8.2.1.getD z8.2.2.2.1.toNat ((0 : Int), (([] : List (List Int)), ([] : List (List Int))))
let v11 : Int := (v10.2.1.length : Int)
let v12 : Int := IntKind.wrap .i64 (v10.1 + v11)
let v13 : Bool := decide (v12 > z8.1)
bif v13 then
some (.inr (([] : List (Int × Int)), (1 : Int)))
else
Option.bind (f28 v10.1 z8.2.2.2.2.2.1 z8.2.2.2.2.2.2 z8.2.2.2.2.1) fun y14 =>
let v15 : Int := (v10.2.1.length : Int)
let v16 : Int := IntKind.wrap .i64 (y14.1 + v15)
let v17 : Int := (v10.2.2.length : Int)
let v18 : Int := IntKind.wrap .i64 (y14.2.1 + v17)
let v19 : Int := IntKind.wrap .i64 (z8.2.2.2.1 + (1 : Int))
self (z8.1, z8.2.1, z8.2.2.1, v19, y14.2.2, v16, v18)
else none
else
some (.inl (z8.1, z8.2.1, z8.2.2.1, z8.2.2.2.1, z8.2.2.2.2.1, z8.2.2.2.2.2.1, z8.2.2.2.2.2.2))
def r9 (f11 : (List (Int × ((List (List Int)) × (List (List Int))))) → Option (Bool)) (f28 : Int → Int → Int → (List (Int × Int)) → Option (Int × Int × (List (Int × Int)))) (lp0 : (Int × (List (Int × ((List (List Int)) × (List (List Int))))) × Int × Int × (List (Int × Int)) × Int × Int) → Option ((Int × (List (Int × ((List (List Int)) × (List (List Int))))) × Int × Int × (List (Int × Int)) × Int × Int) ⊕ ((List (Int × Int)) × Int))) (a0 : Int) (a1 : (List (Int × ((List (List Int)) × (List (List Int)))))) : Option ((List (Int × Int)) × Int) :=
Option.bind (f11 a1) fun y1 =>
let v2 : Bool := !y1
bif v2 == false then
let v3 : Bool := decide (a0 < (0 : Int))
bif v3 == false then
let v4 : Bool := decide (a0 > (1048576 : Int))
bif v4 then
some (([] : List (Int × Int)), (1 : Int))
else
let v5 : Int := (a1.length : Int)
Option.bind (lp0 (a0, a1, v5, (0 : Int), ([] : List (Int × Int)), (0 : Int), (0 : Int))) fun s6 => onSum s6 (fun y7 =>
Option.bind (f28 y7.1 y7.2.2.2.2.2.1 y7.2.2.2.2.2.2 y7.2.2.2.2.1) fun y21 =>
some (y21.2.2, (0 : Int))) (fun o20 => some o20)
else
some (([] : List (Int × Int)), (1 : Int))
else
some (([] : List (Int × Int)), (1 : Int))
-- tatting/tattinglaw24.awake
def r10 (f8 : (List (List Int)) → (List (List Int)) → (List (Int × Int)) → Option ((List (Int × ((List (List Int)) × (List (List Int))))) × Int)) (f9 : Int → (List (Int × ((List (List Int)) × (List (List Int))))) → Option ((List (Int × Int)) × Int)) (f11 : (List (Int × ((List (List Int)) × (List (List Int))))) → Option (Bool)) (f17 : (List (Int × ((List (List Int)) × (List (List Int))))) → Option (Int × Int)) (_ : Unit) : Option (Bool) :=
let v1 : (List Int) := ([(97 : Int)] : List Int)
if 0 < v1.length then
let v2 : (List Int) := ([(98 : Int)] : List Int)
if 0 < v2.length then
let v3 : (List (List Int)) := ([v1, v2] : List (List Int))
let v4 : (List Int) := ([(98 : Int)] : List Int)
if 0 < v4.length then
let v5 : (List Int) := ([(99 : Int)] : List Int)
if 0 < v5.length then
let v6 : (List (List Int)) := ([v4, v5] : List (List Int))
let v7 : (Int × Int) := ((1 : Int), (0 : Int))
let v8 : (List (Int × Int)) := ([v7] : List (Int × Int))
Option.bind (f8 v3 v6 v8) fun y9 =>
Option.bind (f9 (2 : Int) y9.1) fun y10 =>
Option.bind (f17 y9.1) fun y11 =>
let v12 : Bool := decide (y9.2 = (0 : Int))
bif v12 == true then
let v13 : Int := (y9.1.length : Int)
let v14 : Bool := decide (v13 = (2 : Int))
bif v14 == true then
if 0 ≤ (0 : Int) ∧ (0 : Int) < (y9.1.length : Int) then
let v15 : (Int × ((List (List Int)) × (List (List Int)))) := y9.1.getD (0 : Int).toNat ((0 : Int), (([] : List (List Int)), ([] : List (List Int))))
let v16 : Bool := decide (v15.1 = (0 : Int))
bif v16 == true then
if 0 ≤ (0 : Int) ∧ (0 : Int) < (y9.1.length : Int) then
let v17 : (Int × ((List (List Int)) × (List (List Int)))) := y9.1.getD (0 : Int).toNat ((0 : Int), (([] : List (List Int)), ([] : List (List Int))))
let v18 : Int := (v17.2.1.length : Int)
let v19 : Bool := decide (v18 = (1 : Int))
bif v19 == true then
if 0 ≤ (1 : Int) ∧ (1 : Int) < (y9.1.length : Int) then
let v20 : (Int × ((List (List Int)) × (List (List Int)))) := y9.1.getD (1 : Int).toNat ((0 : Int), (([] : List (List Int)), ([] : List (List Int))))
let v21 : Bool := decide (v20.1 = (2 : Int))
bif v21 == true then
if 0 ≤ (1 : Int) ∧ (1 : Int) < (y9.1.length : Int) then
let v22 : (Int × ((List (List Int)) × (List (List Int)))) := y9.1.getD (1 : Int).toNat ((0 : Int), (([] : List (List Int)), ([] : List (List Int))))
let v23 : Int := (v22.2.2.length : Int)
let v24 : Bool := decide (v23 = (1 : Int))
bif v24 == true then
Option.bind (f11 y9.1) fun y25 =>
bif y25 == true then
let v26 : Bool := decide (y10.2 = (0 : Int))
bif v26 == true then
let v27 : Int := (y10.1.length : Int)
let v28 : Bool := decide (v27 = (1 : Int))
bif v28 == true then
let v29 : Bool := decide (y11.1 = (1 : Int))
bif v29 == true then
let v30 : Bool := decide (y11.2 = (1 : Int))
some v30
else
some false
else
some false
else
some false
else
some false
else
some false
else none
else
some false
else none
else
some false
else none
else
some false
else none
else
some false
else
some false
else none
else none
else none
else none
-- tatting/edit.Good
def F11_0 (f29 : (List (List Int)) → Option (Bool)) (self : (Int × (List (Int × ((List (List Int)) × (List (List Int))))) × Int × Int) → Option ((Int × (List (Int × ((List (List Int)) × (List (List Int))))) × Int × Int) ⊕ (Bool))) (z4 : Int × (List (Int × ((List (List Int)) × (List (List Int))))) × Int × Int) : Option ((Int × (List (Int × ((List (List Int)) × (List (List Int))))) × Int × Int) ⊕ (Bool)) :=
let v5 : Bool := decide (z4.2.2.2 < z4.2.2.1)
bif v5 then
if 0 ≤ z4.2.2.2 ∧ z4.2.2.2 < (z4.2.1.length : Int) then
let v6 : (Int × ((List (List Int)) × (List (List Int)))) := z4.2.1.getD z4.2.2.2.toNat ((0 : Int), (([] : List (List Int)), ([] : List (List Int))))
let v7 : Bool := decide (v6.1 ≤ z4.1)
bif v7 == false then
let v8 : Bool := decide (v6.1 > (1048576 : Int))
bif v8 == false then
let v9 : Int := (v6.2.1.length : Int)
let v10 : Int := (v6.2.2.length : Int)
let v11 : Int := IntKind.wrap .i64 (v9 + v10)
let v12 : Bool := decide (v11 = (0 : Int))
bif v12 == false then
Option.bind (f29 v6.2.1) fun y13 =>
let v14 : Bool := !y13
bif v14 == false then
Option.bind (f29 v6.2.2) fun y15 =>
let v16 : Bool := !y15
bif v16 then
some (.inr false)
else
let v17 : Int := (v6.2.1.length : Int)
let v18 : Int := IntKind.wrap .i64 (v6.1 + v17)
let v19 : Int := IntKind.wrap .i64 (z4.2.2.2 + (1 : Int))
self (v18, z4.2.1, z4.2.2.1, v19)
else
some (.inr false)
else
some (.inr false)
else
some (.inr false)
else
some (.inr false)
else none
else
some (.inl (z4.1, z4.2.1, z4.2.2.1, z4.2.2.2))
def r11 (f29 : (List (List Int)) → Option (Bool)) (lp0 : (Int × (List (Int × ((List (List Int)) × (List (List Int))))) × Int × Int) → Option ((Int × (List (Int × ((List (List Int)) × (List (List Int))))) × Int × Int) ⊕ (Bool))) (a0 : (List (Int × ((List (List Int)) × (List (List Int)))))) : Option (Bool) :=
let v1 : Int := (a0.length : Int)
Option.bind (lp0 ((-1 : Int), a0, v1, (0 : Int))) fun s2 => onSum s2 (fun y3 =>
some true) (fun o20 => some o20)
-- tatting/tattingref1.SamePairs
def F12_0 (self : ((List (Int × Int)) × (List (Int × Int)) × Int) → Option (((List (Int × Int)) × (List (Int × Int)) × Int) ⊕ (Bool))) (z6 : (List (Int × Int)) × (List (Int × Int)) × Int) : Option (((List (Int × Int)) × (List (Int × Int)) × Int) ⊕ (Bool)) :=
let v7 : Int := (z6.1.length : Int)
let v8 : Bool := decide (z6.2.2 < v7)
bif v8 then
if 0 ≤ z6.2.2 ∧ z6.2.2 < (z6.1.length : Int) then
let v9 : (Int × Int) := z6.1.getD z6.2.2.toNat ((0 : Int), (0 : Int))
if 0 ≤ z6.2.2 ∧ z6.2.2 < (z6.2.1.length : Int) then
let v10 : (Int × Int) := z6.2.1.getD z6.2.2.toNat ((0 : Int), (0 : Int))
let v11 : Bool := !((eqInt v9.1 v10.1 && eqInt v9.2 v10.2))
bif v11 then
some (.inr false)
else
let v12 : Int := IntKind.wrap .i64 (z6.2.2 + (1 : Int))
self (z6.1, z6.2.1, v12)
else none
else none
else
some (.inl (z6.1, z6.2.1, z6.2.2))
def r12 (lp0 : ((List (Int × Int)) × (List (Int × Int)) × Int) → Option (((List (Int × Int)) × (List (Int × Int)) × Int) ⊕ (Bool))) (a0 : (List (Int × Int))) (a1 : (List (Int × Int))) : Option (Bool) :=
let v1 : Int := (a0.length : Int)
let v2 : Int := (a1.length : Int)
let v3 : Bool := !decide (v1 = v2)
bif v3 then
some false
else
Option.bind (lp0 (a0, a1, (0 : Int))) fun s4 => onSum s4 (fun y5 =>
some true) (fun o13 => some o13)
-- tatting/tattinglaw24.few
def F13_0 (self : ((List (List Int)) × Int) → Option (((List (List Int)) × Int) ⊕ (Bool))) (z5 : (List (List Int)) × Int) : Option (((List (List Int)) × Int) ⊕ (Bool)) :=
let v6 : Int := (z5.1.length : Int)
let v7 : Bool := decide (z5.2 < v6)
bif v7 then
if 0 ≤ z5.2 ∧ z5.2 < (z5.1.length : Int) then
let v8 : (List Int) := z5.1.getD z5.2.toNat ([] : List Int)
let v9 : Int := (v8.length : Int)
let v10 : Bool := decide (v9 > (30 : Int))
bif v10 then
some (.inr false)
else
let v11 : Int := IntKind.wrap .i64 (z5.2 + (1 : Int))
self (z5.1, v11)
else none
else
some (.inl (z5.1, z5.2))
def r13 (lp0 : ((List (List Int)) × Int) → Option (((List (List Int)) × Int) ⊕ (Bool))) (a0 : (List (List Int))) : Option (Bool) :=
let v1 : Int := (a0.length : Int)
let v2 : Bool := decide (v1 > (30 : Int))
bif v2 then
some false
else
Option.bind (lp0 (a0, (0 : Int))) fun s3 => onSum s3 (fun y4 =>
some true) (fun o12 => some o12)
-- tatting/tattinglaw24.small
def F16_0 (f13 : (List (List Int)) → Option (Bool)) (self : ((List (Int × ((List (List Int)) × (List (List Int))))) × Int) → Option (((List (Int × ((List (List Int)) × (List (List Int))))) × Int) ⊕ (Bool))) (z5 : (List (Int × ((List (List Int)) × (List (List Int))))) × Int) : Option (((List (Int × ((List (List Int)) × (List (List Int))))) × Int) ⊕ (Bool)) :=
let v6 : Int := (z5.1.length : Int)
let v7 : Bool := decide (z5.2 < v6)
bif v7 then
if 0 ≤ z5.2 ∧ z5.2 < (z5.1.length : Int) then
let v8 : (Int × ((List (List Int)) × (List (List Int)))) := z5.1.getD z5.2.toNat ((0 : Int), (([] : List (List Int)), ([] : List (List Int))))
Option.bind (f13 v8.2.1) fun y9 =>
let v10 : Bool := !y9
bif v10 == false then
if 0 ≤ z5.2 ∧ z5.2 < (z5.1.length : Int) then
let v11 : (Int × ((List (List Int)) × (List (List Int)))) := z5.1.getD z5.2.toNat ((0 : Int), (([] : List (List Int)), ([] : List (List Int))))
Option.bind (f13 v11.2.2) fun y12 =>
let v13 : Bool := !y12
bif v13 then
some (.inr false)
else
let v14 : Int := IntKind.wrap .i64 (z5.2 + (1 : Int))
self (z5.1, v14)
else none
else
some (.inr false)
else none
else
some (.inl (z5.1, z5.2))
def r16 (f13 : (List (List Int)) → Option (Bool)) (lp0 : ((List (Int × ((List (List Int)) × (List (List Int))))) × Int) → Option (((List (Int × ((List (List Int)) × (List (List Int))))) × Int) ⊕ (Bool))) (a0 : (List (Int × ((List (List Int)) × (List (List Int)))))) : Option (Bool) :=
let v1 : Int := (a0.length : Int)
let v2 : Bool := decide (v1 > (12 : Int))
bif v2 then
some false
else
Option.bind (lp0 (a0, (0 : Int))) fun s3 => onSum s3 (fun y4 =>
some true) (fun o15 => some o15)
-- tatting/edit.Count
def F17_0 (self : (Int × Int × (List (Int × ((List (List Int)) × (List (List Int))))) × Int × Int) → Option ((Int × Int × (List (Int × ((List (List Int)) × (List (List Int))))) × Int × Int) ⊕ (Int × Int))) (z4 : Int × Int × (List (Int × ((List (List Int)) × (List (List Int))))) × Int × Int) : Option ((Int × Int × (List (Int × ((List (List Int)) × (List (List Int))))) × Int × Int) ⊕ (Int × Int)) :=
let v5 : Bool := decide (z4.2.2.2.2 < z4.2.2.2.1)
bif v5 then
if 0 ≤ z4.2.2.2.2 ∧ z4.2.2.2.2 < (z4.2.2.1.length : Int) then
let v6 : (Int × ((List (List Int)) × (List (List Int)))) := z4.2.2.1.getD z4.2.2.2.2.toNat ((0 : Int), (([] : List (List Int)), ([] : List (List Int))))
let v7 : Int := (v6.2.1.length : Int)
let v8 : Int := IntKind.wrap .i64 (z4.1 + v7)
let v9 : Int := (v6.2.2.length : Int)
let v10 : Int := IntKind.wrap .i64 (z4.2.1 + v9)
let v11 : Int := IntKind.wrap .i64 (z4.2.2.2.2 + (1 : Int))
self (v8, v10, z4.2.2.1, z4.2.2.2.1, v11)
else none
else
some (.inl (z4.1, z4.2.1, z4.2.2.1, z4.2.2.2.1, z4.2.2.2.2))
def r17 (lp0 : (Int × Int × (List (Int × ((List (List Int)) × (List (List Int))))) × Int × Int) → Option ((Int × Int × (List (Int × ((List (List Int)) × (List (List Int))))) × Int × Int) ⊕ (Int × Int))) (a0 : (List (Int × ((List (List Int)) × (List (List Int)))))) : Option (Int × Int) :=
let v1 : Int := (a0.length : Int)
Option.bind (lp0 ((0 : Int), (0 : Int), a0, v1, (0 : Int))) fun s2 => onSum s2 (fun y3 =>
some (y3.1, y3.2.1)) (fun o12 => some o12)
-- tatting/tattingref24.Good
def F19_0 (lp1 : ((List (Int × ((List (List Int)) × (List (List Int))))) × Int × Int × (Int × ((List (List Int)) × (List (List Int))))) → Option (((List (Int × ((List (List Int)) × (List (List Int))))) × Int × Int × (Int × ((List (List Int)) × (List (List Int))))) ⊕ (Bool))) (lp2 : ((List (Int × ((List (List Int)) × (List (List Int))))) × Int × Int × (Int × ((List (List Int)) × (List (List Int))))) → Option (((List (Int × ((List (List Int)) × (List (List Int))))) × Int × Int × (Int × ((List (List Int)) × (List (List Int))))) ⊕ (Bool))) (self : ((List (Int × ((List (List Int)) × (List (List Int))))) × Int) → Option (((List (Int × ((List (List Int)) × (List (List Int))))) × Int) ⊕ (Bool))) (z3 : (List (Int × ((List (List Int)) × (List (List Int))))) × Int) : Option (((List (Int × ((List (List Int)) × (List (List Int))))) × Int) ⊕ (Bool)) :=
let v4 : Int := (z3.1.length : Int)
let v5 : Bool := decide (z3.2 < v4)
bif v5 then
if 0 ≤ z3.2 ∧ z3.2 < (z3.1.length : Int) then
let v6 : (Int × ((List (List Int)) × (List (List Int)))) := z3.1.getD z3.2.toNat ((0 : Int), (([] : List (List Int)), ([] : List (List Int))))
let v7 : Bool := decide (v6.1 < (0 : Int))
bif v7 == false then
let v8 : Bool := decide (v6.1 > (1048576 : Int))
bif v8 == false then
let v9 : Int := (v6.2.1.length : Int)
let v10 : Int := (v6.2.2.length : Int)
let v11 : Int := IntKind.wrap .i64 (v9 + v10)
let v12 : Bool := decide (v11 = (0 : Int))
bif v12 then
some (.inr false)
else
let v13 : Bool := decide (z3.2 > (0 : Int))
bif v13 == true then
let v14 : Int := IntKind.wrap .i64 (z3.2 - (1 : Int))
if 0 ≤ v14 ∧ v14 < (z3.1.length : Int) then
let v15 : (Int × ((List (List Int)) × (List (List Int)))) := z3.1.getD v14.toNat ((0 : Int), (([] : List (List Int)), ([] : List (List Int))))
let v16 : Int := IntKind.wrap .i64 (v6.1 - v15.1)
let v17 : Int := IntKind.wrap .i64 (z3.2 - (1 : Int))
if 0 ≤ v17 ∧ v17 < (z3.1.length : Int) then
let v18 : (Int × ((List (List Int)) × (List (List Int)))) := z3.1.getD v17.toNat ((0 : Int), (([] : List (List Int)), ([] : List (List Int))))
let v19 : Int := (v18.2.1.length : Int)
let v20 : Bool := decide (v16 ≤ v19)
bif v20 then
some (.inr false)
else
Option.bind (lp1 (z3.1, z3.2, (0 : Int), v6)) fun s21 => onSum s21 (fun y22 =>
Option.bind (lp2 (y22.1, y22.2.1, (0 : Int), y22.2.2.2)) fun s31 => onSum s31 (fun y32 =>
let v41 : Int := IntKind.wrap .i64 (y32.2.1 + (1 : Int))
self (y32.1, v41)) (fun o40 => some (.inr o40))) (fun o30 => some (.inr o30))
else none
else none
else
Option.bind (lp1 (z3.1, z3.2, (0 : Int), v6)) fun s42 => onSum s42 (fun y43 =>
Option.bind (lp2 (y43.1, y43.2.1, (0 : Int), y43.2.2.2)) fun s45 => onSum s45 (fun y46 =>
let v48 : Int := IntKind.wrap .i64 (y46.2.1 + (1 : Int))
self (y46.1, v48)) (fun o47 => some (.inr o47))) (fun o44 => some (.inr o44))
else
some (.inr false)
else
some (.inr false)
else none
else
some (.inl (z3.1, z3.2))
def F19_1 (self : ((List (Int × ((List (List Int)) × (List (List Int))))) × Int × Int × (Int × ((List (List Int)) × (List (List Int))))) → Option (((List (Int × ((List (List Int)) × (List (List Int))))) × Int × Int × (Int × ((List (List Int)) × (List (List Int))))) ⊕ (Bool))) (z23 : (List (Int × ((List (List Int)) × (List (List Int))))) × Int × Int × (Int × ((List (List Int)) × (List (List Int))))) : Option (((List (Int × ((List (List Int)) × (List (List Int))))) × Int × Int × (Int × ((List (List Int)) × (List (List Int))))) ⊕ (Bool)) :=
let v24 : Int := (z23.2.2.2.2.1.length : Int)
let v25 : Bool := decide (z23.2.2.1 < v24)
bif v25 then
if 0 ≤ z23.2.2.1 ∧ z23.2.2.1 < (z23.2.2.2.2.1.length : Int) then
let v26 : (List Int) := z23.2.2.2.2.1.getD z23.2.2.1.toNat ([] : List Int)
let v27 : Int := (v26.length : Int)
let v28 : Bool := decide (v27 = (0 : Int))
bif v28 then
some (.inr false)
else
let v29 : Int := IntKind.wrap .i64 (z23.2.2.1 + (1 : Int))
self (z23.1, z23.2.1, v29, z23.2.2.2)
else none
else
some (.inl (z23.1, z23.2.1, z23.2.2.1, z23.2.2.2))
def F19_2 (self : ((List (Int × ((List (List Int)) × (List (List Int))))) × Int × Int × (Int × ((List (List Int)) × (List (List Int))))) → Option (((List (Int × ((List (List Int)) × (List (List Int))))) × Int × Int × (Int × ((List (List Int)) × (List (List Int))))) ⊕ (Bool))) (z33 : (List (Int × ((List (List Int)) × (List (List Int))))) × Int × Int × (Int × ((List (List Int)) × (List (List Int))))) : Option (((List (Int × ((List (List Int)) × (List (List Int))))) × Int × Int × (Int × ((List (List Int)) × (List (List Int))))) ⊕ (Bool)) :=
let v34 : Int := (z33.2.2.2.2.2.length : Int)
let v35 : Bool := decide (z33.2.2.1 < v34)
bif v35 then
if 0 ≤ z33.2.2.1 ∧ z33.2.2.1 < (z33.2.2.2.2.2.length : Int) then
let v36 : (List Int) := z33.2.2.2.2.2.getD z33.2.2.1.toNat ([] : List Int)
let v37 : Int := (v36.length : Int)
let v38 : Bool := decide (v37 = (0 : Int))
bif v38 then
some (.inr false)
else
let v39 : Int := IntKind.wrap .i64 (z33.2.2.1 + (1 : Int))
self (z33.1, z33.2.1, v39, z33.2.2.2)
else none
else
some (.inl (z33.1, z33.2.1, z33.2.2.1, z33.2.2.2))
def r19 (lp0 : ((List (Int × ((List (List Int)) × (List (List Int))))) × Int) → Option (((List (Int × ((List (List Int)) × (List (List Int))))) × Int) ⊕ (Bool))) (lp1 : ((List (Int × ((List (List Int)) × (List (List Int))))) × Int × Int × (Int × ((List (List Int)) × (List (List Int))))) → Option (((List (Int × ((List (List Int)) × (List (List Int))))) × Int × Int × (Int × ((List (List Int)) × (List (List Int))))) ⊕ (Bool))) (lp2 : ((List (Int × ((List (List Int)) × (List (List Int))))) × Int × Int × (Int × ((List (List Int)) × (List (List Int))))) → Option (((List (Int × ((List (List Int)) × (List (List Int))))) × Int × Int × (Int × ((List (List Int)) × (List (List Int))))) ⊕ (Bool))) (a0 : (List (Int × ((List (List Int)) × (List (List Int)))))) : Option (Bool) :=
Option.bind (lp0 (a0, (0 : Int))) fun s1 => onSum s1 (fun y2 =>
some true) (fun o49 => some o49)
-- tatting/tattingref24.Pairs
def F20_0 (f19 : (List (Int × ((List (List Int)) × (List (List Int))))) → Option (Bool)) (self : (Int × (List (Int × ((List (List Int)) × (List (List Int))))) × Int × Int × Int × Int × (List (Int × Int))) → Option ((Int × (List (Int × ((List (List Int)) × (List (List Int))))) × Int × Int × Int × Int × (List (Int × Int))) ⊕ ((List (Int × Int)) × Int))) (z16 : Int × (List (Int × ((List (List Int)) × (List (List Int))))) × Int × Int × Int × Int × (List (Int × Int))) : Option ((Int × (List (Int × ((List (List Int)) × (List (List Int))))) × Int × Int × Int × Int × (List (Int × Int))) ⊕ ((List (Int × Int)) × Int)) :=
let v17 : Bool := decide (z16.2.2.1 < z16.2.2.2.2.2.1)
bif v17 then
let v18 : (Int × Int) := (z16.2.2.1, z16.2.2.2.1)
let v19 : (List (Int × Int)) := ([v18] : List (Int × Int))
if (z16.2.2.2.2.2.2.length + v19.length) * 16 ≤ 140737488355328 ∧ z16.2.2.2.2.2.2.length + v19.length ≤ 140737488355328 then
let v20 : (List (Int × Int)) := z16.2.2.2.2.2.2 ++ v19
let v21 : Int := IntKind.wrap .i64 (z16.2.2.1 + (1 : Int))
let v22 : Int := IntKind.wrap .i64 (z16.2.2.2.1 + (1 : Int))
self (z16.1, z16.2.1, v21, v22, z16.2.2.2.2.1, z16.2.2.2.2.2.1, v20)
else none
else
some (.inl (z16.1, z16.2.1, z16.2.2.1, z16.2.2.2.1, z16.2.2.2.2.1, z16.2.2.2.2.2.1, z16.2.2.2.2.2.2))
def F20_1 (f19 : (List (Int × ((List (List Int)) × (List (List Int))))) → Option (Bool)) (lp0 : (Int × (List (Int × ((List (List Int)) × (List (List Int))))) × Int × Int × Int × Int × (List (Int × Int))) → Option ((Int × (List (Int × ((List (List Int)) × (List (List Int))))) × Int × Int × Int × Int × (List (Int × Int))) ⊕ ((List (Int × Int)) × Int))) (self : (Int × (List (Int × ((List (List Int)) × (List (List Int))))) × Int × Int × Int × (List (Int × Int))) → Option ((Int × (List (Int × ((List (List Int)) × (List (List Int))))) × Int × Int × Int × (List (Int × Int))) ⊕ ((List (Int × Int)) × Int))) (z7 : Int × (List (Int × ((List (List Int)) × (List (List Int))))) × Int × Int × Int × (List (Int × Int))) : Option ((Int × (List (Int × ((List (List Int)) × (List (List Int))))) × Int × Int × Int × (List (Int × Int))) ⊕ ((List (Int × Int)) × Int)) :=
let v8 : Int := (z7.2.1.length : Int)
let v9 : Bool := decide (z7.2.2.2.2.1 ≤ v8)
bif v9 then
let v10 : Int := (z7.2.1.length : Int)
let v11 : Bool := decide (z7.2.2.2.2.1 < v10)
bif v11 then
if 0 ≤ z7.2.2.2.2.1 ∧ z7.2.2.2.2.1 < (z7.2.1.length : Int) then
let v12 : (Int × ((List (List Int)) × (List (List Int)))) := z7.2.1.getD z7.2.2.2.2.1.toNat ((0 : Int), (([] : List (List Int)), ([] : List (List Int))))
let v13 : Bool := decide (v12.1 > z7.1)
bif v13 then
some (.inr (([] : List (Int × Int)), (1 : Int)))
else
Option.bind (lp0 (z7.1, z7.2.1, z7.2.2.1, z7.2.2.2.1, z7.2.2.2.2.1, v12.1, z7.2.2.2.2.2)) fun s14 => onSum s14 (fun y15 =>
let v24 : Int := (y15.2.1.length : Int)
let v25 : Bool := decide (y15.2.2.2.2.1 < v24)
bif v25 then
if 0 ≤ y15.2.2.2.2.1 ∧ y15.2.2.2.2.1 < (y15.2.1.length : Int) then
let v26 : (Int × ((List (List Int)) × (List (List Int)))) := y15.2.1.getD y15.2.2.2.2.1.toNat ((0 : Int), (([] : List (List Int)), ([] : List (List Int))))
let v27 : Int := (v26.2.1.length : Int)
let v28 : Int := IntKind.wrap .i64 (y15.2.2.1 + v27)
if 0 ≤ y15.2.2.2.2.1 ∧ y15.2.2.2.2.1 < (y15.2.1.length : Int) then
let v29 : (Int × ((List (List Int)) × (List (List Int)))) := y15.2.1.getD y15.2.2.2.2.1.toNat ((0 : Int), (([] : List (List Int)), ([] : List (List Int))))
let v30 : Int := (v29.2.2.length : Int)
let v31 : Int := IntKind.wrap .i64 (y15.2.2.2.1 + v30)
let v32 : Bool := decide (v28 > y15.1)
bif v32 then
some (.inr (([] : List (Int × Int)), (1 : Int)))
else
let v33 : Int := IntKind.wrap .i64 (y15.2.2.2.2.1 + (1 : Int))
self (y15.1, y15.2.1, v28, v31, v33, y15.2.2.2.2.2.2)
else none
else none
else
let v34 : Int := IntKind.wrap .i64 (y15.2.2.2.2.1 + (1 : Int))
self (y15.1, y15.2.1, y15.2.2.1, y15.2.2.2.1, v34, y15.2.2.2.2.2.2)) (fun o23 => some (.inr o23))
else none
else
let v35 : Bool := decide (z7.1 > z7.1)
bif v35 then
some (.inr (([] : List (Int × Int)), (1 : Int)))
else
Option.bind (lp0 (z7.1, z7.2.1, z7.2.2.1, z7.2.2.2.1, z7.2.2.2.2.1, z7.1, z7.2.2.2.2.2)) fun s36 => onSum s36 (fun y37 =>
let v39 : Int := (y37.2.1.length : Int)
let v40 : Bool := decide (y37.2.2.2.2.1 < v39)
bif v40 then
if 0 ≤ y37.2.2.2.2.1 ∧ y37.2.2.2.2.1 < (y37.2.1.length : Int) then
let v41 : (Int × ((List (List Int)) × (List (List Int)))) := y37.2.1.getD y37.2.2.2.2.1.toNat ((0 : Int), (([] : List (List Int)), ([] : List (List Int))))
let v42 : Int := (v41.2.1.length : Int)
let v43 : Int := IntKind.wrap .i64 (y37.2.2.1 + v42)
if 0 ≤ y37.2.2.2.2.1 ∧ y37.2.2.2.2.1 < (y37.2.1.length : Int) then
let v44 : (Int × ((List (List Int)) × (List (List Int)))) := y37.2.1.getD y37.2.2.2.2.1.toNat ((0 : Int), (([] : List (List Int)), ([] : List (List Int))))
let v45 : Int := (v44.2.2.length : Int)
let v46 : Int := IntKind.wrap .i64 (y37.2.2.2.1 + v45)
let v47 : Bool := decide (v43 > y37.1)
bif v47 then
some (.inr (([] : List (Int × Int)), (1 : Int)))
else
let v48 : Int := IntKind.wrap .i64 (y37.2.2.2.2.1 + (1 : Int))
self (y37.1, y37.2.1, v43, v46, v48, y37.2.2.2.2.2.2)
else none
else none
else
let v49 : Int := IntKind.wrap .i64 (y37.2.2.2.2.1 + (1 : Int))
self (y37.1, y37.2.1, y37.2.2.1, y37.2.2.2.1, v49, y37.2.2.2.2.2.2)) (fun o38 => some (.inr o38))
else
some (.inl (z7.1, z7.2.1, z7.2.2.1, z7.2.2.2.1, z7.2.2.2.2.1, z7.2.2.2.2.2))
def r20 (f19 : (List (Int × ((List (List Int)) × (List (List Int))))) → Option (Bool)) (lp0 : (Int × (List (Int × ((List (List Int)) × (List (List Int))))) × Int × Int × Int × Int × (List (Int × Int))) → Option ((Int × (List (Int × ((List (List Int)) × (List (List Int))))) × Int × Int × Int × Int × (List (Int × Int))) ⊕ ((List (Int × Int)) × Int))) (lp1 : (Int × (List (Int × ((List (List Int)) × (List (List Int))))) × Int × Int × Int × (List (Int × Int))) → Option ((Int × (List (Int × ((List (List Int)) × (List (List Int))))) × Int × Int × Int × (List (Int × Int))) ⊕ ((List (Int × Int)) × Int))) (a0 : Int) (a1 : (List (Int × ((List (List Int)) × (List (List Int)))))) : Option ((List (Int × Int)) × Int) :=
Option.bind (f19 a1) fun y1 =>
let v2 : Bool := !y1
bif v2 == false then
let v3 : Bool := decide (a0 < (0 : Int))
bif v3 == false then
let v4 : Bool := decide (a0 > (1048576 : Int))
bif v4 then
some (([] : List (Int × Int)), (1 : Int))
else
Option.bind (lp1 (a0, a1, (0 : Int), (0 : Int), (0 : Int), ([] : List (Int × Int)))) fun s5 => onSum s5 (fun y6 =>
some (y6.2.2.2.2.2, (0 : Int))) (fun o50 => some o50)
else
some (([] : List (Int × Int)), (1 : Int))
else
some (([] : List (Int × Int)), (1 : Int))
-- tatting/names.Two
def r24 (f35 : (List (List Int)) → Option ((List (List Int)))) (f36 : (List (List (List Int))) → Option ((List (List Int)))) (f37 : (List (List Int)) → (List (List Int)) → Option ((List Int) × Bool)) (a0 : (List (List Int))) (a1 : (List (List Int))) : Option ((List Int) × (List Int) × Int) :=
let v1 : (List (List (List Int))) := ([a0, a1] : List (List (List Int)))
Option.bind (f36 v1) fun y2 =>
Option.bind (f35 y2) fun y3 =>
Option.bind (f37 y3 a0) fun y4 =>
Option.bind (f37 y3 a1) fun y5 =>
let v6 : Int := (y3.length : Int)
some (y4.1, y5.1, v6)
-- tatting/pairs.Good
def F25_0 (f38 : (List Int) → Int → Option (Bool)) (self : ((List Int) × (List Int) × (List (Int × Int)) × Int × Int × (Int × Int)) → Option (((List Int) × (List Int) × (List (Int × Int)) × Int × Int × (Int × Int)) ⊕ (Bool))) (z5 : (List Int) × (List Int) × (List (Int × Int)) × Int × Int × (Int × Int)) : Option (((List Int) × (List Int) × (List (Int × Int)) × Int × Int × (Int × Int)) ⊕ (Bool)) :=
let v6 : Bool := decide (z5.2.2.2.2.1 < z5.2.2.2.1)
bif v6 then
if 0 ≤ z5.2.2.2.2.1 ∧ z5.2.2.2.2.1 < (z5.2.2.1.length : Int) then
let v7 : (Int × Int) := z5.2.2.1.getD z5.2.2.2.2.1.toNat ((0 : Int), (0 : Int))
Option.bind (f38 z5.1 v7.1) fun y8 =>
let v9 : Bool := !y8
bif v9 == false then
Option.bind (f38 z5.2.1 v7.2) fun y10 =>
let v11 : Bool := !y10
bif v11 == false then
if 0 ≤ v7.1 ∧ v7.1 < (z5.1.length : Int) then
let v12 : Int := z5.1.getD v7.1.toNat (0 : Int)
if 0 ≤ v7.2 ∧ v7.2 < (z5.2.1.length : Int) then
let v13 : Int := z5.2.1.getD v7.2.toNat (0 : Int)
let v14 : Bool := !decide (v12 = v13)
bif v14 == false then
let v15 : Bool := decide (v7.1 ≤ z5.2.2.2.2.2.1)
bif v15 == false then
let v16 : Bool := decide (v7.2 ≤ z5.2.2.2.2.2.2)
bif v16 then
some (.inr false)
else
let v17 : Int := IntKind.wrap .i64 (z5.2.2.2.2.1 + (1 : Int))
self (z5.1, z5.2.1, z5.2.2.1, z5.2.2.2.1, v17, v7)
else
some (.inr false)
else
some (.inr false)
else none
else none
else
some (.inr false)
else
some (.inr false)
else none
else
some (.inl (z5.1, z5.2.1, z5.2.2.1, z5.2.2.2.1, z5.2.2.2.2.1, z5.2.2.2.2.2))
def r25 (f38 : (List Int) → Int → Option (Bool)) (lp0 : ((List Int) × (List Int) × (List (Int × Int)) × Int × Int × (Int × Int)) → Option (((List Int) × (List Int) × (List (Int × Int)) × Int × Int × (Int × Int)) ⊕ (Bool))) (a0 : (List Int)) (a1 : (List Int)) (a2 : (List (Int × Int))) : Option (Bool) :=
let v1 : (Int × Int) := ((-1 : Int), (-1 : Int))
let v2 : Int := (a2.length : Int)
Option.bind (lp0 (a0, a1, a2, v2, (0 : Int), v1)) fun s3 => onSum s3 (fun y4 =>
some true) (fun o18 => some o18)
-- tatting/edit.Make$1
def r26 (f27 : (List (List Int)) → Option ((List (List Int)))) (a0 : Int) (a1 : Int) (a2 : Int) (a3 : Int) (a4 : (List (Int × ((List (List Int)) × (List (List Int)))))) (a5 : (List (List Int))) (a6 : (List (List Int))) : Option (Int × Int × (List (Int × ((List (List Int)) × (List (List Int))))) × (List (List Int)) × (List (List Int))) :=
let v1 : Bool := decide (a2 < a0)
bif v1 == false then
let v2 : Bool := decide (a3 < a1)
bif v2 then
if 0 ≤ a2 ∧ a2 ≤ a0 ∧ a0 ≤ (a5.length : Int) then
let v3 : (List (List Int)) := cut a5 a2 a0
Option.bind (f27 v3) fun y4 =>
if 0 ≤ a3 ∧ a3 ≤ a1 ∧ a1 ≤ (a6.length : Int) then
let v5 : (List (List Int)) := cut a6 a3 a1
Option.bind (f27 v5) fun y6 =>
let v7 : (Int × ((List (List Int)) × (List (List Int)))) := (a2, (y4, y6))
let v8 : (List (Int × ((List (List Int)) × (List (List Int))))) := ([v7] : List (Int × ((List (List Int)) × (List (List Int)))))
if (a4.length + v8.length) * 56 ≤ 140737488355328 ∧ a4.length + v8.length ≤ 140737488355328 then
let v9 : (List (Int × ((List (List Int)) × (List (List Int))))) := a4 ++ v8
let v10 : Int := IntKind.wrap .i64 (a0 + (1 : Int))
let v11 : Int := IntKind.wrap .i64 (a1 + (1 : Int))
some (v10, v11, v9, a5, a6)
else none
else none
else none
else
let v12 : Int := IntKind.wrap .i64 (a0 + (1 : Int))
let v13 : Int := IntKind.wrap .i64 (a1 + (1 : Int))
some (v12, v13, a4, a5, a6)
else
if 0 ≤ a2 ∧ a2 ≤ a0 ∧ a0 ≤ (a5.length : Int) then
let v14 : (List (List Int)) := cut a5 a2 a0
Option.bind (f27 v14) fun y15 =>
if 0 ≤ a3 ∧ a3 ≤ a1 ∧ a1 ≤ (a6.length : Int) then
let v16 : (List (List Int)) := cut a6 a3 a1
Option.bind (f27 v16) fun y17 =>
let v18 : (Int × ((List (List Int)) × (List (List Int)))) := (a2, (y15, y17))
let v19 : (List (Int × ((List (List Int)) × (List (List Int))))) := ([v18] : List (Int × ((List (List Int)) × (List (List Int)))))
if (a4.length + v19.length) * 56 ≤ 140737488355328 ∧ a4.length + v19.length ≤ 140737488355328 then
let v20 : (List (Int × ((List (List Int)) × (List (List Int))))) := a4 ++ v19
let v21 : Int := IntKind.wrap .i64 (a0 + (1 : Int))
let v22 : Int := IntKind.wrap .i64 (a1 + (1 : Int))
some (v21, v22, v20, a5, a6)
else none
else none
else none
-- tatting/edit.tokens
def F27_0 (f39 : (List Int) → Option ((List Int))) (self : ((List (List Int)) × Int × Int × (List (List Int))) → Option (((List (List Int)) × Int × Int × (List (List Int))) ⊕ ((List (List Int))))) (z4 : (List (List Int)) × Int × Int × (List (List Int))) : Option (((List (List Int)) × Int × Int × (List (List Int))) ⊕ ((List (List Int)))) :=
let v5 : Bool := decide (z4.2.2.1 < z4.2.1)
bif v5 then
if 0 ≤ z4.2.2.1 ∧ z4.2.2.1 < (z4.1.length : Int) then
let v6 : (List Int) := z4.1.getD z4.2.2.1.toNat ([] : List Int)
Option.bind (f39 v6) fun y7 =>
let v8 : (List (List Int)) := ([y7] : List (List Int))
if (z4.2.2.2.length + v8.length) * 24 ≤ 140737488355328 ∧ z4.2.2.2.length + v8.length ≤ 140737488355328 then
let v9 : (List (List Int)) := z4.2.2.2 ++ v8
let v10 : Int := IntKind.wrap .i64 (z4.2.2.1 + (1 : Int))
self (z4.1, z4.2.1, v10, v9)
else none
else none
else
some (.inl (z4.1, z4.2.1, z4.2.2.1, z4.2.2.2))
def r27 (f39 : (List Int) → Option ((List Int))) (lp0 : ((List (List Int)) × Int × Int × (List (List Int))) → Option (((List (List Int)) × Int × Int × (List (List Int))) ⊕ ((List (List Int))))) (a0 : (List (List Int))) : Option ((List (List Int))) :=
let v1 : Int := (a0.length : Int)
Option.bind (lp0 (a0, v1, (0 : Int), ([] : List (List Int)))) fun s2 => onSum s2 (fun y3 =>
some y3.2.2.2) (fun o11 => some o11)
-- tatting/edit.Pairs$1
def F28_0 (self : (Int × Int × Int × (List (Int × Int))) → Option ((Int × Int × Int × (List (Int × Int))) ⊕ (Int × Int × (List (Int × Int))))) (z3 : Int × Int × Int × (List (Int × Int))) : Option ((Int × Int × Int × (List (Int × Int))) ⊕ (Int × Int × (List (Int × Int)))) :=
let v4 : Bool := decide (z3.2.1 < z3.1)
bif v4 then
let v5 : (Int × Int) := (z3.2.1, z3.2.2.1)
let v6 : (List (Int × Int)) := ([v5] : List (Int × Int))
if (z3.2.2.2.length + v6.length) * 16 ≤ 140737488355328 ∧ z3.2.2.2.length + v6.length ≤ 140737488355328 then
let v7 : (List (Int × Int)) := z3.2.2.2 ++ v6
let v8 : Int := IntKind.wrap .i64 (z3.2.1 + (1 : Int))
let v9 : Int := IntKind.wrap .i64 (z3.2.2.1 + (1 : Int))
self (z3.1, v8, v9, v7)
else none
else
some (.inl (z3.1, z3.2.1, z3.2.2.1, z3.2.2.2))
def r28 (lp0 : (Int × Int × Int × (List (Int × Int))) → Option ((Int × Int × Int × (List (Int × Int))) ⊕ (Int × Int × (List (Int × Int))))) (a0 : Int) (a1 : Int) (a2 : Int) (a3 : (List (Int × Int))) : Option (Int × Int × (List (Int × Int))) :=
Option.bind (lp0 (a0, a1, a2, a3)) fun s1 => onSum s1 (fun y2 =>
some (y2.2.1, y2.2.2.1, y2.2.2.2)) (fun o10 => some o10)
-- tatting/edit.all
def F29_0 (self : ((List (List Int)) × Int × Int) → Option (((List (List Int)) × Int × Int) ⊕ (Bool))) (z4 : (List (List Int)) × Int × Int) : Option (((List (List Int)) × Int × Int) ⊕ (Bool)) :=
let v5 : Bool := decide (z4.2.2 < z4.2.1)
bif v5 then
if 0 ≤ z4.2.2 ∧ z4.2.2 < (z4.1.length : Int) then
let v6 : (List Int) := z4.1.getD z4.2.2.toNat ([] : List Int)
let v7 : Int := (v6.length : Int)
let v8 : Bool := decide (v7 = (0 : Int))
bif v8 then
some (.inr false)
else
let v9 : Int := IntKind.wrap .i64 (z4.2.2 + (1 : Int))
self (z4.1, z4.2.1, v9)
else none
else
some (.inl (z4.1, z4.2.1, z4.2.2))
def r29 (lp0 : ((List (List Int)) × Int × Int) → Option (((List (List Int)) × Int × Int) ⊕ (Bool))) (a0 : (List (List Int))) : Option (Bool) :=
let v1 : Int := (a0.length : Int)
Option.bind (lp0 (a0, v1, (0 : Int))) fun s2 => onSum s2 (fun y3 =>
some true) (fun o10 => some o10)
-- tatting/names.Sort
def F35_0 (f39 : (List Int) → Option ((List Int))) (f43 : (List (List Int)) → Option ((List (List Int)))) (f44 : (List (List Int)) → Option ((List (List Int)))) (f46 : (List (List Int)) → Option ((List (List Int)))) (self : (Int × Int × (List (List Int)) × (List (List Int))) → Option ((Int × Int × (List (List Int)) × (List (List Int))) ⊕ ((List (List Int))))) (z9 : Int × Int × (List (List Int)) × (List (List Int))) : Option ((Int × Int × (List (List Int)) × (List (List Int))) ⊕ ((List (List Int)))) :=
let v10 : Bool := decide (z9.2.1 < z9.1)
bif v10 then
if 0 ≤ z9.2.1 ∧ z9.2.1 < (z9.2.2.2.length : Int) then
let v11 : (List Int) := (z9.2.2.2.getD z9.2.1.toNat ([] : List Int))
Option.bind (f39 v11) fun y12 =>
if 0 ≤ z9.2.1 ∧ z9.2.1 < (z9.2.2.1.length : Int) then
let v13 : (List (List Int)) := z9.2.2.1.set z9.2.1.toNat y12
let v14 : Int := IntKind.wrap .i64 (z9.2.1 + (1 : Int))
self (z9.1, v14, v13, z9.2.2.2)
else none
else none
else
some (.inl (z9.1, z9.2.1, z9.2.2.1, z9.2.2.2))
def r35 (f39 : (List Int) → Option ((List Int))) (f43 : (List (List Int)) → Option ((List (List Int)))) (f44 : (List (List Int)) → Option ((List (List Int)))) (f46 : (List (List Int)) → Option ((List (List Int)))) (lp0 : (Int × Int × (List (List Int)) × (List (List Int))) → Option ((Int × Int × (List (List Int)) × (List (List Int))) ⊕ ((List (List Int))))) (a0 : (List (List Int))) : Option ((List (List Int))) :=
Option.bind (f43 a0) fun y1 =>
Option.bind (f44 y1) fun y2 =>
Option.bind (f46 y2) fun y3 =>
let v4 : Int := (y3.length : Int)
if 0 ≤ v4 ∧ v4 ≤ v4 ∧ v4 * (24 : Int) ≤ 140737488355328 ∧ v4 ≤ 140737488355328 then
let v5 : (List (List Int)) := List.replicate v4.toNat ([] : List Int)
let v6 : Int := (y3.length : Int)
Option.bind (lp0 (v6, (0 : Int), v5, y3)) fun s7 => onSum s7 (fun y8 =>
some y8.2.2.1) (fun o15 => some o15)
else none
-- slices.Concat[[][]byte,[]byte]
def F36_0 (f48 : Int → (List (List Int)) → Option ((List (List Int)))) (self : ((List (List (List Int))) × Int × (List (List (List Int))) × Int × Int) → Option (((List (List (List Int))) × Int × (List (List (List Int))) × Int × Int) ⊕ ((List (List Int))))) (z4 : (List (List (List Int))) × Int × (List (List (List Int))) × Int × Int) : Option (((List (List (List Int))) × Int × (List (List (List Int))) × Int × Int) ⊕ ((List (List Int)))) :=
let v5 : Bool := decide (z4.2.2.2.2 < z4.2.2.2.1)
bif v5 then
if 0 ≤ z4.2.2.2.2 ∧ z4.2.2.2.2 < (z4.2.2.1.length : Int) then
let v6 : (List (List Int)) := z4.2.2.1.getD z4.2.2.2.2.toNat ([] : List (List Int))
let v7 : Int := (v6.length : Int)
let v8 : Int := IntKind.wrap .i64 (z4.2.1 + v7)
let v9 : Bool := decide (v8 < (0 : Int))
bif v9 then
none
else
let v10 : Int := IntKind.wrap .i64 (z4.2.2.2.2 + (1 : Int))
self (z4.1, v8, z4.2.2.1, z4.2.2.2.1, v10)
else none
else
some (.inl (z4.1, z4.2.1, z4.2.2.1, z4.2.2.2.1, z4.2.2.2.2))
def F36_1 (f48 : Int → (List (List Int)) → Option ((List (List Int)))) (self : ((List (List (List Int))) × Int × Int × (List (List Int))) → Option (((List (List (List Int))) × Int × Int × (List (List Int))) ⊕ ((List (List Int))))) (z16 : (List (List (List Int))) × Int × Int × (List (List Int))) : Option (((List (List (List Int))) × Int × Int × (List (List Int))) ⊕ ((List (List Int)))) :=
let v17 : Bool := decide (z16.2.2.1 < z16.2.1)
bif v17 then
if 0 ≤ z16.2.2.1 ∧ z16.2.2.1 < (z16.1.length : Int) then
let v18 : (List (List Int)) := z16.1.getD z16.2.2.1.toNat ([] : List (List Int))
if (z16.2.2.2.length + v18.length) * 24 ≤ 140737488355328 ∧ z16.2.2.2.length + v18.length ≤ 140737488355328 then
let v19 : (List (List Int)) := z16.2.2.2 ++ v18
let v20 : Int := IntKind.wrap .i64 (z16.2.2.1 + (1 : Int))
self (z16.1, z16.2.1, v20, v19)
else none
else none
else
some (.inl (z16.1, z16.2.1, z16.2.2.1, z16.2.2.2))
def r36 (f48 : Int → (List (List Int)) → Option ((List (List Int)))) (lp0 : ((List (List (List Int))) × Int × (List (List (List Int))) × Int × Int) → Option (((List (List (List Int))) × Int × (List (List (List Int))) × Int × Int) ⊕ ((List (List Int))))) (lp1 : ((List (List (List Int))) × Int × Int × (List (List Int))) → Option (((List (List (List Int))) × Int × Int × (List (List Int))) ⊕ ((List (List Int))))) (a0 : (List (List (List Int)))) : Option ((List (List Int))) :=
let v1 : Int := (a0.length : Int)
Option.bind (lp0 (a0, (0 : Int), a0, v1, (0 : Int))) fun s2 => onSum s2 (fun y3 =>
Option.bind (f48 y3.2.1 ([] : List (List Int))) fun y12 =>
let v13 : Int := (y3.1.length : Int)
Option.bind (lp1 (y3.1, v13, (0 : Int), y12)) fun s14 => onSum s14 (fun y15 =>
some y15.2.2.2) (fun o21 => some o21)) (fun o11 => some o11)
-- tatting/names.Ids
def F37_0 (f49 : (List (List Int)) → (List Int) → Option (Int × Bool)) (self : ((List (List Int)) × (List (List Int)) × Int × Int × (List Int)) → Option (((List (List Int)) × (List (List Int)) × Int × Int × (List Int)) ⊕ ((List Int) × Bool))) (z6 : (List (List Int)) × (List (List Int)) × Int × Int × (List Int)) : Option (((List (List Int)) × (List (List Int)) × Int × Int × (List Int)) ⊕ ((List Int) × Bool)) :=
let v7 : Bool := decide (z6.2.2.2.1 < z6.2.2.1)
bif v7 then
if 0 ≤ z6.2.2.2.1 ∧ z6.2.2.2.1 < (z6.2.1.length : Int) then
let v8 : (List Int) := z6.2.1.getD z6.2.2.2.1.toNat ([] : List Int)
Option.bind (f49 z6.1 v8) fun y9 =>
let v10 : Bool := !y9.2
bif v10 then
some (.inr (([] : List Int), false))
else
if 0 ≤ z6.2.2.2.1 ∧ z6.2.2.2.1 < (z6.2.2.2.2.length : Int) then
let v11 : (List Int) := z6.2.2.2.2.set z6.2.2.2.1.toNat y9.1
let v12 : Int := IntKind.wrap .i64 (z6.2.2.2.1 + (1 : Int))
self (z6.1, z6.2.1, z6.2.2.1, v12, v11)
else none
else none
else
some (.inl (z6.1, z6.2.1, z6.2.2.1, z6.2.2.2.1, z6.2.2.2.2))
def r37 (f49 : (List (List Int)) → (List Int) → Option (Int × Bool)) (lp0 : ((List (List Int)) × (List (List Int)) × Int × Int × (List Int)) → Option (((List (List Int)) × (List (List Int)) × Int × Int × (List Int)) ⊕ ((List Int) × Bool))) (a0 : (List (List Int))) (a1 : (List (List Int))) : Option ((List Int) × Bool) :=
let v1 : Int := (a1.length : Int)
if 0 ≤ v1 ∧ v1 ≤ v1 ∧ v1 * (8 : Int) ≤ 140737488355328 ∧ v1 ≤ 140737488355328 then
let v2 : (List Int) := List.replicate v1.toNat (0 : Int)
let v3 : Int := (a1.length : Int)
Option.bind (lp0 (a0, a1, v3, (0 : Int), v2)) fun s4 => onSum s4 (fun y5 =>
some (y5.2.2.2.2, true)) (fun o13 => some o13)
else none
-- tatting/pairs.is
def r38 (a0 : (List Int)) (a1 : Int) : Option (Bool) :=
let v1 : Bool := decide (a1 ≥ (0 : Int))
bif v1 == true then
let v2 : Int := (a0.length : Int)
let v3 : Bool := decide (a1 < v2)
some v3
else
some false
-- bytes.Compare
def r45 (f52 : (List Int) → (List Int) → Option (Int)) (a0 : (List Int)) (a1 : (List Int)) : Option (Int) :=
Option.bind (f52 a0 a1) fun y1 =>
some y1
-- tatting/names.Find
def r49 (f53 : (List (List Int)) → (List Int) → Option (Int × Bool)) (a0 : (List (List Int))) (a1 : (List Int)) : Option (Int × Bool) :=
Option.bind (f53 a0 a1) fun y1 =>
let v2 : Bool := !y1.2
bif v2 then
some ((0 : Int), false)
else
some (y1.1, true)
-- slices.BinarySearchFunc[[][]byte,[]byte,[]byte]
def F53_0 (f45 : (List Int) → (List Int) → Option (Int)) (self : ((List (List Int)) × (List Int) × Int × Int × Int) → Option (((List (List Int)) × (List Int) × Int × Int × Int) ⊕ (Int × Bool))) (z4 : (List (List Int)) × (List Int) × Int × Int × Int) : Option (((List (List Int)) × (List Int) × Int × Int × Int) ⊕ (Int × Bool)) :=
let v5 : Bool := decide (z4.2.2.2.1 < z4.2.2.2.2)
bif v5 then
let v6 : Int := IntKind.wrap .i64 (z4.2.2.2.1 + z4.2.2.2.2)
let v7 : Int := IntKind.wrap .u64 v6
if (1 : Int) < 0 then none else
let v8 : Int := v7.fdiv (2 ^ (min (1 : Int).toNat (IntKind.bits .u64)))
let v9 : Int := IntKind.wrap .i64 v8
if 0 ≤ v9 ∧ v9 < (z4.1.length : Int) then
let v10 : (List Int) := z4.1.getD v9.toNat ([] : List Int)
Option.bind (f45 v10 z4.2.1) fun y11 =>
let v12 : Bool := decide (y11 < (0 : Int))
bif v12 then
let v13 : Int := IntKind.wrap .i64 (v9 + (1 : Int))
self (z4.1, z4.2.1, z4.2.2.1, v13, z4.2.2.2.2)
else
self (z4.1, z4.2.1, z4.2.2.1, z4.2.2.2.1, v9)
else none
else
some (.inl (z4.1, z4.2.1, z4.2.2.1, z4.2.2.2.1, z4.2.2.2.2))
def r53 (f45 : (List Int) → (List Int) → Option (Int)) (lp0 : ((List (List Int)) × (List Int) × Int × Int × Int) → Option (((List (List Int)) × (List Int) × Int × Int × Int) ⊕ (Int × Bool))) (a0 : (List (List Int))) (a1 : (List Int)) : Option (Int × Bool) :=
let v1 : Int := (a0.length : Int)
Option.bind (lp0 (a0, a1, v1, (0 : Int), v1)) fun s2 => onSum s2 (fun y3 =>
let v15 : Bool := decide (y3.2.2.2.1 < y3.2.2.1)
bif v15 == true then
if 0 ≤ y3.2.2.2.1 ∧ y3.2.2.2.1 < (y3.1.length : Int) then
let v16 : (List Int) := y3.1.getD y3.2.2.2.1.toNat ([] : List Int)
Option.bind (f45 v16 y3.2.1) fun y17 =>
let v18 : Bool := decide (y17 = (0 : Int))
some (y3.2.2.2.1, v18)
else none
else
some (y3.2.2.2.1, false)) (fun o14 => some o14)
def g6 (call : CallFn E) : Int → (List (Int × ((List (List Int)) × (List (List Int))))) → Option (Bool) := fun x0 x1 => call 6 (x0, x1)
def g8 (call : CallFn E) : (List (List Int)) → (List (List Int)) → (List (Int × Int)) → Option ((List (Int × ((List (List Int)) × (List (List Int))))) × Int) := fun x0 x1 x2 => call 8 (x0, x1, x2)
def g9 (call : CallFn E) : Int → (List (Int × ((List (List Int)) × (List (List Int))))) → Option ((List (Int × Int)) × Int) := fun x0 x1 => call 9 (x0, x1)
def g10 (call : CallFn E) : Unit → Option (Bool) := fun _ => call 10 ()
def g11 (call : CallFn E) : (List (Int × ((List (List Int)) × (List (List Int))))) → Option (Bool) := fun x0 => call 11 x0
def g12 (call : CallFn E) : (List (Int × Int)) → (List (Int × Int)) → Option (Bool) := fun x0 x1 => call 12 (x0, x1)
def g13 (call : CallFn E) : (List (List Int)) → Option (Bool) := fun x0 => call 13 x0
def g16 (call : CallFn E) : (List (Int × ((List (List Int)) × (List (List Int))))) → Option (Bool) := fun x0 => call 16 x0
def g17 (call : CallFn E) : (List (Int × ((List (List Int)) × (List (List Int))))) → Option (Int × Int) := fun x0 => call 17 x0
def g19 (call : CallFn E) : (List (Int × ((List (List Int)) × (List (List Int))))) → Option (Bool) := fun x0 => call 19 x0
def g20 (call : CallFn E) : Int → (List (Int × ((List (List Int)) × (List (List Int))))) → Option ((List (Int × Int)) × Int) := fun x0 x1 => call 20 (x0, x1)
def g24 (call : CallFn E) : (List (List Int)) → (List (List Int)) → Option ((List Int) × (List Int) × Int) := fun x0 x1 => call 24 (x0, x1)
def g25 (call : CallFn E) : (List Int) → (List Int) → (List (Int × Int)) → Option (Bool) := fun x0 x1 x2 => call 25 (x0, x1, x2)
def g26 (call : CallFn E) : Int → Int → Int → Int → (List (Int × ((List (List Int)) × (List (List Int))))) → (List (List Int)) → (List (List Int)) → Option (Int × Int × (List (Int × ((List (List Int)) × (List (List Int))))) × (List (List Int)) × (List (List Int))) := fun x0 x1 x2 x3 x4 x5 x6 => call 26 (x0, x1, x2, x3, x4, x5, x6)
def g27 (call : CallFn E) : (List (List Int)) → Option ((List (List Int))) := fun x0 => call 27 x0
def g28 (call : CallFn E) : Int → Int → Int → (List (Int × Int)) → Option (Int × Int × (List (Int × Int))) := fun x0 x1 x2 x3 => call 28 (x0, x1, x2, x3)
def g29 (call : CallFn E) : (List (List Int)) → Option (Bool) := fun x0 => call 29 x0
def g35 (call : CallFn E) : (List (List Int)) → Option ((List (List Int))) := fun x0 => call 35 x0
def g36 (call : CallFn E) : (List (List (List Int))) → Option ((List (List Int))) := fun x0 => call 36 x0
def g37 (call : CallFn E) : (List (List Int)) → (List (List Int)) → Option ((List Int) × Bool) := fun x0 x1 => call 37 (x0, x1)
def g38 (call : CallFn E) : (List Int) → Int → Option (Bool) := fun x0 x1 => call 38 (x0, x1)
def g39 (call : CallFn E) : (List Int) → Option ((List Int)) := fun x0 => call 39 x0
def g43 (call : CallFn E) : (List (List Int)) → Option ((List (List Int))) := fun x0 => call 43 x0
def g44 (call : CallFn E) : (List (List Int)) → Option ((List (List Int))) := fun x0 => call 44 x0
def g45 (call : CallFn E) : (List Int) → (List Int) → Option (Int) := fun x0 x1 => call 45 (x0, x1)
def g46 (call : CallFn E) : (List (List Int)) → Option ((List (List Int))) := fun x0 => call 46 x0
def g48 (call : CallFn E) : Int → (List (List Int)) → Option ((List (List Int))) := fun x0 x1 => call 48 (x0, x1)
def g49 (call : CallFn E) : (List (List Int)) → (List Int) → Option (Int × Bool) := fun x0 x1 => call 49 (x0, x1)
def g52 (call : CallFn E) : (List Int) → (List Int) → Option (Int) := fun x0 x1 => call 52 (x0, x1)
def g53 (call : CallFn E) : (List (List Int)) → (List Int) → Option (Int × Bool) := fun x0 x1 => call 53 (x0, x1)
noncomputable def q6 (call : CallFn E) (n : Nat) (a0 : Int) (a1 : (List (Int × ((List (List Int)) × (List (List Int)))))) : Option (Bool) := runHow E call n s6 (a0, a1) h6
theorem rr6 (call : CallFn E) (n : Nat) (a0 : Int) (a1 : (List (Int × ((List (List Int)) × (List (List Int)))))) : q6 call n a0 a1 = r6 (g9 call) (g10 call) (g12 call) (g16 call) (g20 call)  a0 a1 := by kernel_rfl
theorem gq6 (n : Nat) (a0 : Int) (a1 : (List (Int × ((List (List Int)) × (List (List Int)))))) : g6 (evalF E (n + 1)) a0 a1 = q6 (evalF E n) n a0 a1 := by kernel_rfl
def L8_0 : LH := ⟨[3, 4, 11, 14, 30, 31, 32], ⟨[.ptr 0 0, .ptr 1 0, .ptr 2 0, .fnc 26 [3, 4, 2, 0, 1], .dat (.slice (.pair (.int .i64) (.one (.int .i64)))), .dat (.int .i64), .dat (.int .i64)], [.var (.slice (.slice (.int .u8))), .var (.slice (.slice (.int .u8))), .vrow (.pair (.int .i64) (.pair (.slice (.slice (.int .u8))) (.one (.slice (.slice (.int .u8)))))), .var (.int .i64), .var (.int .i64)]⟩, 0⟩
noncomputable def b8_0 : Code := codeAt c8 [1, 1, 1, 1, 1, 1, 0, 1, 0, 0]
noncomputable def lq8_0 (call : CallFn E) (n m : Nat) (y : (List (Int × Int)) × Int × Int × (List (List Int)) × (List (List Int)) × (List (Int × ((List (List Int)) × (List (List Int))))) × Int × Int) : Option (((List (Int × Int)) × Int × Int × (List (List Int)) × (List (List Int)) × (List (Int × ((List (List Int)) × (List (List Int))))) × Int × Int) ⊕ ((List (Int × ((List (List Int)) × (List (List Int))))) × Int)) := loopAt (ctxOf E call n s8 Try.f8 hs8) b8_0 [0, 1, 0, 1, 1, 1, 1, 1, 1] L8_0 m y
theorem lp8_0 (call : CallFn E) (n m : Nat) (y : (List (Int × Int)) × Int × Int × (List (List Int)) × (List (List Int)) × (List (Int × ((List (List Int)) × (List (List Int))))) × Int × Int) : lq8_0 call n (m + 1) y = F8_0 (g24 call) (g25 call) (g26 call)  (lq8_0 call n m) y := by kernel_rfl
noncomputable def q8 (call : CallFn E) (n : Nat) (a0 : (List (List Int))) (a1 : (List (List Int))) (a2 : (List (Int × Int))) : Option ((List (Int × ((List (List Int)) × (List (List Int))))) × Int) := runHow E call n s8 (a0, a1, a2) h8
theorem rr8 (call : CallFn E) (n : Nat) (a0 : (List (List Int))) (a1 : (List (List Int))) (a2 : (List (Int × Int))) : q8 call n a0 a1 a2 = r8 (g24 call) (g25 call) (g26 call) (lq8_0 call n n) a0 a1 a2 := by kernel_rfl
theorem gq8 (n : Nat) (a0 : (List (List Int))) (a1 : (List (List Int))) (a2 : (List (Int × Int))) : g8 (evalF E (n + 1)) a0 a1 a2 = q8 (evalF E n) n a0 a1 a2 := by kernel_rfl
def L9_0 : LH := ⟨[0, 6, 7, 8, 9, 24, 25, 26], ⟨[.dat (.int .i64), .ptr 0 0, .ptr 1 0, .ptr 2 0, .fnc 28 [1, 2, 0], .dat (.slice (.pair (.int .i64) (.pair (.slice (.slice (.int .u8))) (.one (.slice (.slice (.int .u8))))))), .dat (.int .i64), .dat (.int .i64)], [.vrow (.pair (.int .i64) (.one (.int .i64))), .var (.int .i64), .var (.int .i64)]⟩, 0⟩
noncomputable def b9_0 : Code := codeAt c9 [1, 1, 1, 1, 1, 0, 1, 0, 0]
noncomputable def lq9_0 (call : CallFn E) (n m : Nat) (y : Int × (List (Int × ((List (List Int)) × (List (List Int))))) × Int × Int × (List (Int × Int)) × Int × Int) : Option ((Int × (List (Int × ((List (List Int)) × (List (List Int))))) × Int × Int × (List (Int × Int)) × Int × Int) ⊕ ((List (Int × Int)) × Int)) := loopAt (ctxOf E call n s9 Try.f9 hs9) b9_0 [0, 1, 0, 1, 1, 1, 1, 1] L9_0 m y
theorem lp9_0 (call : CallFn E) (n m : Nat) (y : Int × (List (Int × ((List (List Int)) × (List (List Int))))) × Int × Int × (List (Int × Int)) × Int × Int) : lq9_0 call n (m + 1) y = F9_0 (g11 call) (g28 call)  (lq9_0 call n m) y := by kernel_rfl
noncomputable def q9 (call : CallFn E) (n : Nat) (a0 : Int) (a1 : (List (Int × ((List (List Int)) × (List (List Int)))))) : Option ((List (Int × Int)) × Int) := runHow E call n s9 (a0, a1) h9
theorem rr9 (call : CallFn E) (n : Nat) (a0 : Int) (a1 : (List (Int × ((List (List Int)) × (List (List Int)))))) : q9 call n a0 a1 = r9 (g11 call) (g28 call) (lq9_0 call n n) a0 a1 := by kernel_rfl
theorem gq9 (n : Nat) (a0 : Int) (a1 : (List (Int × ((List (List Int)) × (List (List Int)))))) : g9 (evalF E (n + 1)) a0 a1 = q9 (evalF E n) n a0 a1 := by kernel_rfl
noncomputable def q10 (call : CallFn E) (n : Nat) (_ : Unit) : Option (Bool) := runHow E call n s10 () h10
theorem rr10 (call : CallFn E) (n : Nat) (u : Unit) : q10 call n u = r10 (g8 call) (g9 call) (g11 call) (g17 call)  u := by kernel_rfl
theorem gq10 (n : Nat) (u : Unit) : g10 (evalF E (n + 1)) u = q10 (evalF E n) n u := by kernel_rfl
def L11_0 : LH := ⟨[3, 6, 7, 8], ⟨[.dat (.int .i64), .dat (.slice (.pair (.int .i64) (.pair (.slice (.slice (.int .u8))) (.one (.slice (.slice (.int .u8))))))), .dat (.int .i64), .dat (.int .i64)], []⟩, 0⟩
noncomputable def b11_0 : Code := codeAt c11 [1, 1, 0, 1, 0, 0]
noncomputable def lq11_0 (call : CallFn E) (n m : Nat) (y : Int × (List (Int × ((List (List Int)) × (List (List Int))))) × Int × Int) : Option ((Int × (List (Int × ((List (List Int)) × (List (List Int))))) × Int × Int) ⊕ (Bool)) := loopAt (ctxOf E call n s11 Try.f11 hs11) b11_0 [0, 1, 0, 1, 1] L11_0 m y
theorem lp11_0 (call : CallFn E) (n m : Nat) (y : Int × (List (Int × ((List (List Int)) × (List (List Int))))) × Int × Int) : lq11_0 call n (m + 1) y = F11_0 (g29 call)  (lq11_0 call n m) y := by kernel_rfl
noncomputable def q11 (call : CallFn E) (n : Nat) (a0 : (List (Int × ((List (List Int)) × (List (List Int)))))) : Option (Bool) := runHow E call n s11 a0 h11
theorem rr11 (call : CallFn E) (n : Nat) (a0 : (List (Int × ((List (List Int)) × (List (List Int)))))) : q11 call n a0 = r11 (g29 call) (lq11_0 call n n) a0 := by kernel_rfl
theorem gq11 (n : Nat) (a0 : (List (Int × ((List (List Int)) × (List (List Int)))))) : g11 (evalF E (n + 1)) a0 = q11 (evalF E n) n a0 := by kernel_rfl
def L12_0 : LH := ⟨[0, 1, 5], ⟨[.dat (.slice (.pair (.int .i64) (.one (.int .i64)))), .dat (.slice (.pair (.int .i64) (.one (.int .i64)))), .dat (.int .i64)], []⟩, 0⟩
noncomputable def b12_0 : Code := codeAt c12 [1, 1, 0, 1, 0, 0]
noncomputable def lq12_0 (call : CallFn E) (n m : Nat) (y : (List (Int × Int)) × (List (Int × Int)) × Int) : Option (((List (Int × Int)) × (List (Int × Int)) × Int) ⊕ (Bool)) := loopAt (ctxOf E call n s12 Try.f12 hs12) b12_0 [0, 1, 0, 1, 1] L12_0 m y
theorem lp12_0 (call : CallFn E) (n m : Nat) (y : (List (Int × Int)) × (List (Int × Int)) × Int) : lq12_0 call n (m + 1) y = F12_0   (lq12_0 call n m) y := by kernel_rfl
noncomputable def q12 (call : CallFn E) (n : Nat) (a0 : (List (Int × Int))) (a1 : (List (Int × Int))) : Option (Bool) := runHow E call n s12 (a0, a1) h12
theorem rr12 (call : CallFn E) (n : Nat) (a0 : (List (Int × Int))) (a1 : (List (Int × Int))) : q12 call n a0 a1 = r12  (lq12_0 call n n) a0 a1 := by kernel_rfl
theorem gq12 (n : Nat) (a0 : (List (Int × Int))) (a1 : (List (Int × Int))) : g12 (evalF E (n + 1)) a0 a1 = q12 (evalF E n) n a0 a1 := by kernel_rfl
def L13_0 : LH := ⟨[0, 3], ⟨[.dat (.slice (.slice (.int .u8))), .dat (.int .i64)], []⟩, 0⟩
noncomputable def b13_0 : Code := codeAt c13 [1, 1, 0, 1, 0, 0]
noncomputable def lq13_0 (call : CallFn E) (n m : Nat) (y : (List (List Int)) × Int) : Option (((List (List Int)) × Int) ⊕ (Bool)) := loopAt (ctxOf E call n s13 Try.f13 hs13) b13_0 [0, 1, 0, 1, 1] L13_0 m y
theorem lp13_0 (call : CallFn E) (n m : Nat) (y : (List (List Int)) × Int) : lq13_0 call n (m + 1) y = F13_0   (lq13_0 call n m) y := by kernel_rfl
noncomputable def q13 (call : CallFn E) (n : Nat) (a0 : (List (List Int))) : Option (Bool) := runHow E call n s13 a0 h13
theorem rr13 (call : CallFn E) (n : Nat) (a0 : (List (List Int))) : q13 call n a0 = r13  (lq13_0 call n n) a0 := by kernel_rfl
theorem gq13 (n : Nat) (a0 : (List (List Int))) : g13 (evalF E (n + 1)) a0 = q13 (evalF E n) n a0 := by kernel_rfl
def L16_0 : LH := ⟨[0, 3], ⟨[.dat (.slice (.pair (.int .i64) (.pair (.slice (.slice (.int .u8))) (.one (.slice (.slice (.int .u8))))))), .dat (.int .i64)], []⟩, 0⟩
noncomputable def b16_0 : Code := codeAt c16 [1, 1, 0, 1, 0, 0]
noncomputable def lq16_0 (call : CallFn E) (n m : Nat) (y : (List (Int × ((List (List Int)) × (List (List Int))))) × Int) : Option (((List (Int × ((List (List Int)) × (List (List Int))))) × Int) ⊕ (Bool)) := loopAt (ctxOf E call n s16 Try.f16 hs16) b16_0 [0, 1, 0, 1, 1] L16_0 m y
theorem lp16_0 (call : CallFn E) (n m : Nat) (y : (List (Int × ((List (List Int)) × (List (List Int))))) × Int) : lq16_0 call n (m + 1) y = F16_0 (g13 call)  (lq16_0 call n m) y := by kernel_rfl
noncomputable def q16 (call : CallFn E) (n : Nat) (a0 : (List (Int × ((List (List Int)) × (List (List Int)))))) : Option (Bool) := runHow E call n s16 a0 h16
theorem rr16 (call : CallFn E) (n : Nat) (a0 : (List (Int × ((List (List Int)) × (List (List Int)))))) : q16 call n a0 = r16 (g13 call) (lq16_0 call n n) a0 := by kernel_rfl
theorem gq16 (n : Nat) (a0 : (List (Int × ((List (List Int)) × (List (List Int)))))) : g16 (evalF E (n + 1)) a0 = q16 (evalF E n) n a0 := by kernel_rfl
def L17_0 : LH := ⟨[2, 3, 6, 7, 8], ⟨[.dat (.int .i64), .dat (.int .i64), .dat (.slice (.pair (.int .i64) (.pair (.slice (.slice (.int .u8))) (.one (.slice (.slice (.int .u8))))))), .dat (.int .i64), .dat (.int .i64)], []⟩, 0⟩
noncomputable def b17_0 : Code := codeAt c17 [1, 0, 1, 0, 0]
noncomputable def lq17_0 (call : CallFn E) (n m : Nat) (y : Int × Int × (List (Int × ((List (List Int)) × (List (List Int))))) × Int × Int) : Option ((Int × Int × (List (Int × ((List (List Int)) × (List (List Int))))) × Int × Int) ⊕ (Int × Int)) := loopAt (ctxOf E call n s17 Try.f17 hs17) b17_0 [0, 1, 0, 1] L17_0 m y
theorem lp17_0 (call : CallFn E) (n m : Nat) (y : Int × Int × (List (Int × ((List (List Int)) × (List (List Int))))) × Int × Int) : lq17_0 call n (m + 1) y = F17_0   (lq17_0 call n m) y := by kernel_rfl
noncomputable def q17 (call : CallFn E) (n : Nat) (a0 : (List (Int × ((List (List Int)) × (List (List Int)))))) : Option (Int × Int) := runHow E call n s17 a0 h17
theorem rr17 (call : CallFn E) (n : Nat) (a0 : (List (Int × ((List (List Int)) × (List (List Int)))))) : q17 call n a0 = r17  (lq17_0 call n n) a0 := by kernel_rfl
theorem gq17 (n : Nat) (a0 : (List (Int × ((List (List Int)) × (List (List Int)))))) : g17 (evalF E (n + 1)) a0 = q17 (evalF E n) n a0 := by kernel_rfl
def L19_0 : LH := ⟨[0, 3], ⟨[.dat (.slice (.pair (.int .i64) (.pair (.slice (.slice (.int .u8))) (.one (.slice (.slice (.int .u8))))))), .dat (.int .i64)], []⟩, 0⟩
noncomputable def b19_0 : Code := codeAt c19 [1, 0, 1, 0, 0]
noncomputable def lq19_0 (call : CallFn E) (n m : Nat) (y : (List (Int × ((List (List Int)) × (List (List Int))))) × Int) : Option (((List (Int × ((List (List Int)) × (List (List Int))))) × Int) ⊕ (Bool)) := loopAt (ctxOf E call n s19 Try.f19 hs19) b19_0 [0, 1, 0, 1] L19_0 m y
def L19_1 : LH := ⟨[0, 3, 4, 5], ⟨[.dat (.slice (.pair (.int .i64) (.pair (.slice (.slice (.int .u8))) (.one (.slice (.slice (.int .u8))))))), .dat (.int .i64), .ptr 0 0, .dat (.int .i64)], [.var (.pair (.int .i64) (.pair (.slice (.slice (.int .u8))) (.one (.slice (.slice (.int .u8))))))]⟩, 2⟩
noncomputable def b19_1 : Code := codeAt c19 [1, 0, 1, 0, 0, 1, 0, 0, 1, 1, 1, 0, 1, 0, 0]
noncomputable def lq19_1 (call : CallFn E) (n m : Nat) (y : (List (Int × ((List (List Int)) × (List (List Int))))) × Int × Int × (Int × ((List (List Int)) × (List (List Int))))) : Option (((List (Int × ((List (List Int)) × (List (List Int))))) × Int × Int × (Int × ((List (List Int)) × (List (List Int))))) ⊕ (Bool)) := loopAt (ctxOf E call n s19 Try.f19 hs19) b19_1 [0, 1, 0, 1, 1, 1, 0, 0, 1, 0, 0, 1, 0, 1] L19_1 m y
def L19_2 : LH := ⟨[0, 3, 4, 6], ⟨[.dat (.slice (.pair (.int .i64) (.pair (.slice (.slice (.int .u8))) (.one (.slice (.slice (.int .u8))))))), .dat (.int .i64), .ptr 0 0, .dat (.int .i64)], [.var (.pair (.int .i64) (.pair (.slice (.slice (.int .u8))) (.one (.slice (.slice (.int .u8))))))]⟩, 4⟩
noncomputable def b19_2 : Code := codeAt c19 [1, 0, 1, 0, 0, 1, 0, 0, 1, 1, 1, 1, 1, 0, 0]
noncomputable def lq19_2 (call : CallFn E) (n m : Nat) (y : (List (Int × ((List (List Int)) × (List (List Int))))) × Int × Int × (Int × ((List (List Int)) × (List (List Int))))) : Option (((List (Int × ((List (List Int)) × (List (List Int))))) × Int × Int × (Int × ((List (List Int)) × (List (List Int))))) ⊕ (Bool)) := loopAt (ctxOf E call n s19 Try.f19 hs19) b19_2 [0, 1, 1, 1, 1, 1, 0, 0, 1, 0, 0, 1, 0, 1] L19_2 m y
theorem lp19_1 (call : CallFn E) (n m : Nat) (y : (List (Int × ((List (List Int)) × (List (List Int))))) × Int × Int × (Int × ((List (List Int)) × (List (List Int))))) : lq19_1 call n (m + 1) y = F19_1   (lq19_1 call n m) y := by kernel_rfl
theorem lp19_2 (call : CallFn E) (n m : Nat) (y : (List (Int × ((List (List Int)) × (List (List Int))))) × Int × Int × (Int × ((List (List Int)) × (List (List Int))))) : lq19_2 call n (m + 1) y = F19_2   (lq19_2 call n m) y := by kernel_rfl
theorem lp19_0 (call : CallFn E) (n m : Nat) (y : (List (Int × ((List (List Int)) × (List (List Int))))) × Int) : lq19_0 call n (m + 1) y = F19_0  (lq19_1 call n n) (lq19_2 call n n) (lq19_0 call n m) y := by kernel_rfl
noncomputable def q19 (call : CallFn E) (n : Nat) (a0 : (List (Int × ((List (List Int)) × (List (List Int)))))) : Option (Bool) := runHow E call n s19 a0 h19
theorem rr19 (call : CallFn E) (n : Nat) (a0 : (List (Int × ((List (List Int)) × (List (List Int)))))) : q19 call n a0 = r19  (lq19_0 call n n) (lq19_1 call n n) (lq19_2 call n n) a0 := by kernel_rfl
theorem gq19 (n : Nat) (a0 : (List (Int × ((List (List Int)) × (List (List Int)))))) : g19 (evalF E (n + 1)) a0 = q19 (evalF E n) n a0 := by kernel_rfl
def L20_0 : LH := ⟨[0, 1, 6, 7, 8, 9, 10], ⟨[.dat (.int .i64), .dat (.slice (.pair (.int .i64) (.pair (.slice (.slice (.int .u8))) (.one (.slice (.slice (.int .u8))))))), .ref 0, .dat (.int .i64), .dat (.int .i64), .dat (.int .i64), .dat (.int .i64)], [.row (.pair (.int .i64) (.one (.int .i64)))]⟩, 2⟩
noncomputable def b20_0 : Code := codeAt c20 [1, 1, 1, 1, 0, 1, 0, 0, 1, 0, 0, 1, 1, 1, 0, 0, 0]
noncomputable def lq20_0 (call : CallFn E) (n m : Nat) (y : Int × (List (Int × ((List (List Int)) × (List (List Int))))) × Int × Int × Int × Int × (List (Int × Int))) : Option ((Int × (List (Int × ((List (List Int)) × (List (List Int))))) × Int × Int × Int × Int × (List (Int × Int))) ⊕ ((List (Int × Int)) × Int)) := loopAt (ctxOf E call n s20 Try.f20 hs20) b20_0 [0, 0, 1, 1, 1, 0, 0, 1, 0, 0, 1, 0, 1, 1, 1, 1] L20_0 m y
def L20_1 : LH := ⟨[0, 1, 6, 7, 8, 9], ⟨[.dat (.int .i64), .dat (.slice (.pair (.int .i64) (.pair (.slice (.slice (.int .u8))) (.one (.slice (.slice (.int .u8))))))), .ref 0, .dat (.int .i64), .dat (.int .i64), .dat (.int .i64)], [.row (.pair (.int .i64) (.one (.int .i64)))]⟩, 0⟩
noncomputable def b20_1 : Code := codeAt c20 [1, 1, 1, 1, 0, 1, 0, 0]
noncomputable def lq20_1 (call : CallFn E) (n m : Nat) (y : Int × (List (Int × ((List (List Int)) × (List (List Int))))) × Int × Int × Int × (List (Int × Int))) : Option ((Int × (List (Int × ((List (List Int)) × (List (List Int))))) × Int × Int × Int × (List (Int × Int))) ⊕ ((List (Int × Int)) × Int)) := loopAt (ctxOf E call n s20 Try.f20 hs20) b20_1 [0, 1, 0, 1, 1, 1, 1] L20_1 m y
theorem lp20_0 (call : CallFn E) (n m : Nat) (y : Int × (List (Int × ((List (List Int)) × (List (List Int))))) × Int × Int × Int × Int × (List (Int × Int))) : lq20_0 call n (m + 1) y = F20_0 (g19 call)  (lq20_0 call n m) y := by kernel_rfl
theorem lp20_1 (call : CallFn E) (n m : Nat) (y : Int × (List (Int × ((List (List Int)) × (List (List Int))))) × Int × Int × Int × (List (Int × Int))) : lq20_1 call n (m + 1) y = F20_1 (g19 call) (lq20_0 call n n) (lq20_1 call n m) y := by kernel_rfl
noncomputable def q20 (call : CallFn E) (n : Nat) (a0 : Int) (a1 : (List (Int × ((List (List Int)) × (List (List Int)))))) : Option ((List (Int × Int)) × Int) := runHow E call n s20 (a0, a1) h20
theorem rr20 (call : CallFn E) (n : Nat) (a0 : Int) (a1 : (List (Int × ((List (List Int)) × (List (List Int)))))) : q20 call n a0 a1 = r20 (g19 call) (lq20_0 call n n) (lq20_1 call n n) a0 a1 := by kernel_rfl
theorem gq20 (n : Nat) (a0 : Int) (a1 : (List (Int × ((List (List Int)) × (List (List Int)))))) : g20 (evalF E (n + 1)) a0 a1 = q20 (evalF E n) n a0 a1 := by kernel_rfl
noncomputable def q24 (call : CallFn E) (n : Nat) (a0 : (List (List Int))) (a1 : (List (List Int))) : Option ((List Int) × (List Int) × Int) := runHow E call n s24 (a0, a1) h24
theorem rr24 (call : CallFn E) (n : Nat) (a0 : (List (List Int))) (a1 : (List (List Int))) : q24 call n a0 a1 = r24 (g35 call) (g36 call) (g37 call)  a0 a1 := by kernel_rfl
theorem gq24 (n : Nat) (a0 : (List (List Int))) (a1 : (List (List Int))) : g24 (evalF E (n + 1)) a0 a1 = q24 (evalF E n) n a0 a1 := by kernel_rfl
def L25_0 : LH := ⟨[0, 1, 7, 11, 12, 13], ⟨[.dat (.slice (.int .i64)), .dat (.slice (.int .i64)), .ptr 0 0, .dat (.slice (.pair (.int .i64) (.one (.int .i64)))), .dat (.int .i64), .dat (.int .i64)], [.var (.pair (.int .i64) (.one (.int .i64)))]⟩, 0⟩
noncomputable def b25_0 : Code := codeAt c25 [1, 1, 0, 1, 0, 0]
noncomputable def lq25_0 (call : CallFn E) (n m : Nat) (y : (List Int) × (List Int) × (List (Int × Int)) × Int × Int × (Int × Int)) : Option (((List Int) × (List Int) × (List (Int × Int)) × Int × Int × (Int × Int)) ⊕ (Bool)) := loopAt (ctxOf E call n s25 Try.f25 hs25) b25_0 [0, 1, 0, 1, 1] L25_0 m y
theorem lp25_0 (call : CallFn E) (n m : Nat) (y : (List Int) × (List Int) × (List (Int × Int)) × Int × Int × (Int × Int)) : lq25_0 call n (m + 1) y = F25_0 (g38 call)  (lq25_0 call n m) y := by kernel_rfl
noncomputable def q25 (call : CallFn E) (n : Nat) (a0 : (List Int)) (a1 : (List Int)) (a2 : (List (Int × Int))) : Option (Bool) := runHow E call n s25 (a0, a1, a2) h25
theorem rr25 (call : CallFn E) (n : Nat) (a0 : (List Int)) (a1 : (List Int)) (a2 : (List (Int × Int))) : q25 call n a0 a1 a2 = r25 (g38 call) (lq25_0 call n n) a0 a1 a2 := by kernel_rfl
theorem gq25 (n : Nat) (a0 : (List Int)) (a1 : (List Int)) (a2 : (List (Int × Int))) : g25 (evalF E (n + 1)) a0 a1 a2 = q25 (evalF E n) n a0 a1 a2 := by kernel_rfl
noncomputable def q26 (call : CallFn E) (n : Nat) (a0 : Int) (a1 : Int) (a2 : Int) (a3 : Int) (a4 : (List (Int × ((List (List Int)) × (List (List Int)))))) (a5 : (List (List Int))) (a6 : (List (List Int))) : Option (Int × Int × (List (Int × ((List (List Int)) × (List (List Int))))) × (List (List Int)) × (List (List Int))) := runHow E call n s26 (a0, a1, a2, a3, a4, a5, a6) h26
theorem rr26 (call : CallFn E) (n : Nat) (a0 : Int) (a1 : Int) (a2 : Int) (a3 : Int) (a4 : (List (Int × ((List (List Int)) × (List (List Int)))))) (a5 : (List (List Int))) (a6 : (List (List Int))) : q26 call n a0 a1 a2 a3 a4 a5 a6 = r26 (g27 call)  a0 a1 a2 a3 a4 a5 a6 := by kernel_rfl
theorem gq26 (n : Nat) (a0 : Int) (a1 : Int) (a2 : Int) (a3 : Int) (a4 : (List (Int × ((List (List Int)) × (List (List Int)))))) (a5 : (List (List Int))) (a6 : (List (List Int))) : g26 (evalF E (n + 1)) a0 a1 a2 a3 a4 a5 a6 = q26 (evalF E n) n a0 a1 a2 a3 a4 a5 a6 := by kernel_rfl
def L27_0 : LH := ⟨[3, 6, 7, 8], ⟨[.ref 0, .dat (.slice (.slice (.int .u8))), .dat (.int .i64), .dat (.int .i64)], [.row (.slice (.int .u8))]⟩, 0⟩
noncomputable def b27_0 : Code := codeAt c27 [1, 1, 0, 1, 0, 0]
noncomputable def lq27_0 (call : CallFn E) (n m : Nat) (y : (List (List Int)) × Int × Int × (List (List Int))) : Option (((List (List Int)) × Int × Int × (List (List Int))) ⊕ ((List (List Int)))) := loopAt (ctxOf E call n s27 Try.f27 hs27) b27_0 [0, 1, 0, 1, 1] L27_0 m y
theorem lp27_0 (call : CallFn E) (n m : Nat) (y : (List (List Int)) × Int × Int × (List (List Int))) : lq27_0 call n (m + 1) y = F27_0 (g39 call)  (lq27_0 call n m) y := by kernel_rfl
noncomputable def q27 (call : CallFn E) (n : Nat) (a0 : (List (List Int))) : Option ((List (List Int))) := runHow E call n s27 a0 h27
theorem rr27 (call : CallFn E) (n : Nat) (a0 : (List (List Int))) : q27 call n a0 = r27 (g39 call) (lq27_0 call n n) a0 := by kernel_rfl
theorem gq27 (n : Nat) (a0 : (List (List Int))) : g27 (evalF E (n + 1)) a0 = q27 (evalF E n) n a0 := by kernel_rfl
def L28_0 : LH := ⟨[0, 1, 2, 3], ⟨[.dat (.int .i64), .ptr 0 0, .ptr 1 0, .ptr 2 0], [.var (.int .i64), .var (.int .i64), .vrow (.pair (.int .i64) (.one (.int .i64)))]⟩, 0⟩
noncomputable def b28_0 : Code := codeAt c28 [0, 0]
noncomputable def lq28_0 (call : CallFn E) (n m : Nat) (y : Int × Int × Int × (List (Int × Int))) : Option ((Int × Int × Int × (List (Int × Int))) ⊕ (Int × Int × (List (Int × Int)))) := loopAt (ctxOf E call n s28 Try.f28 hs28) b28_0 [0] L28_0 m y
theorem lp28_0 (call : CallFn E) (n m : Nat) (y : Int × Int × Int × (List (Int × Int))) : lq28_0 call n (m + 1) y = F28_0   (lq28_0 call n m) y := by kernel_rfl
noncomputable def q28 (call : CallFn E) (n : Nat) (a0 : Int) (a1 : Int) (a2 : Int) (a3 : (List (Int × Int))) : Option (Int × Int × (List (Int × Int))) := runHow E call n s28 (a0, a1, a2, a3) h28
theorem rr28 (call : CallFn E) (n : Nat) (a0 : Int) (a1 : Int) (a2 : Int) (a3 : (List (Int × Int))) : q28 call n a0 a1 a2 a3 = r28  (lq28_0 call n n) a0 a1 a2 a3 := by kernel_rfl
theorem gq28 (n : Nat) (a0 : Int) (a1 : Int) (a2 : Int) (a3 : (List (Int × Int))) : g28 (evalF E (n + 1)) a0 a1 a2 a3 = q28 (evalF E n) n a0 a1 a2 a3 := by kernel_rfl
def L29_0 : LH := ⟨[5, 6, 7], ⟨[.dat (.slice (.slice (.int .u8))), .dat (.int .i64), .dat (.int .i64)], []⟩, 0⟩
noncomputable def b29_0 : Code := codeAt c29 [1, 0, 1, 0, 0]
noncomputable def lq29_0 (call : CallFn E) (n m : Nat) (y : (List (List Int)) × Int × Int) : Option (((List (List Int)) × Int × Int) ⊕ (Bool)) := loopAt (ctxOf E call n s29 Try.f29 hs29) b29_0 [0, 1, 0, 1] L29_0 m y
theorem lp29_0 (call : CallFn E) (n m : Nat) (y : (List (List Int)) × Int × Int) : lq29_0 call n (m + 1) y = F29_0   (lq29_0 call n m) y := by kernel_rfl
noncomputable def q29 (call : CallFn E) (n : Nat) (a0 : (List (List Int))) : Option (Bool) := runHow E call n s29 a0 h29
theorem rr29 (call : CallFn E) (n : Nat) (a0 : (List (List Int))) : q29 call n a0 = r29  (lq29_0 call n n) a0 := by kernel_rfl
theorem gq29 (n : Nat) (a0 : (List (List Int))) : g29 (evalF E (n + 1)) a0 = q29 (evalF E n) n a0 := by kernel_rfl
def L35_0 : LH := ⟨[4, 16, 17, 18], ⟨[.ref 0, .ref 1, .dat (.int .i64), .dat (.int .i64)], [.row (.slice (.int .u8)), .row (.slice (.int .u8))]⟩, 0⟩
noncomputable def b35_0 : Code := codeAt c35 [1, 1, 1, 1, 1, 0, 1, 0, 0]
noncomputable def lq35_0 (call : CallFn E) (n m : Nat) (y : Int × Int × (List (List Int)) × (List (List Int))) : Option ((Int × Int × (List (List Int)) × (List (List Int))) ⊕ ((List (List Int)))) := loopAt (ctxOf E call n s35 Try.f35 hs35) b35_0 [0, 1, 0, 1, 1, 1, 1, 1] L35_0 m y
theorem lp35_0 (call : CallFn E) (n m : Nat) (y : Int × Int × (List (List Int)) × (List (List Int))) : lq35_0 call n (m + 1) y = F35_0 (g39 call) (g43 call) (g44 call) (g46 call)  (lq35_0 call n m) y := by kernel_rfl
noncomputable def q35 (call : CallFn E) (n : Nat) (a0 : (List (List Int))) : Option ((List (List Int))) := runHow E call n s35 a0 h35
theorem rr35 (call : CallFn E) (n : Nat) (a0 : (List (List Int))) : q35 call n a0 = r35 (g39 call) (g43 call) (g44 call) (g46 call) (lq35_0 call n n) a0 := by kernel_rfl
theorem gq35 (n : Nat) (a0 : (List (List Int))) : g35 (evalF E (n + 1)) a0 = q35 (evalF E n) n a0 := by kernel_rfl
def L36_0 : LH := ⟨[0, 3, 9, 10, 11], ⟨[.dat (.slice (.slice (.slice (.int .u8)))), .dat (.int .i64), .dat (.slice (.slice (.slice (.int .u8)))), .dat (.int .i64), .dat (.int .i64)], []⟩, 0⟩
noncomputable def b36_0 : Code := codeAt c36 [1, 1, 0, 1, 0, 0]
noncomputable def lq36_0 (call : CallFn E) (n m : Nat) (y : (List (List (List Int))) × Int × (List (List (List Int))) × Int × Int) : Option (((List (List (List Int))) × Int × (List (List (List Int))) × Int × Int) ⊕ ((List (List Int)))) := loopAt (ctxOf E call n s36 Try.f36 hs36) b36_0 [0, 1, 0, 1, 1] L36_0 m y
def L36_1 : LH := ⟨[6, 25, 26, 27], ⟨[.ref 0, .dat (.slice (.slice (.slice (.int .u8)))), .dat (.int .i64), .dat (.int .i64)], [.row (.slice (.int .u8))]⟩, 2⟩
noncomputable def b36_1 : Code := codeAt c36 [1, 1, 1, 1, 0, 1, 0, 0]
noncomputable def lq36_1 (call : CallFn E) (n m : Nat) (y : (List (List (List Int))) × Int × Int × (List (List Int))) : Option (((List (List (List Int))) × Int × Int × (List (List Int))) ⊕ ((List (List Int)))) := loopAt (ctxOf E call n s36 Try.f36 hs36) b36_1 [0, 1, 0, 1, 1, 1, 1] L36_1 m y
theorem lp36_1 (call : CallFn E) (n m : Nat) (y : (List (List (List Int))) × Int × Int × (List (List Int))) : lq36_1 call n (m + 1) y = F36_1 (g48 call)  (lq36_1 call n m) y := by kernel_rfl
theorem lp36_0 (call : CallFn E) (n m : Nat) (y : (List (List (List Int))) × Int × (List (List (List Int))) × Int × Int) : lq36_0 call n (m + 1) y = F36_0 (g48 call)  (lq36_0 call n m) y := by kernel_rfl
noncomputable def q36 (call : CallFn E) (n : Nat) (a0 : (List (List (List Int)))) : Option ((List (List Int))) := runHow E call n s36 a0 h36
theorem rr36 (call : CallFn E) (n : Nat) (a0 : (List (List (List Int)))) : q36 call n a0 = r36 (g48 call) (lq36_0 call n n) (lq36_1 call n n) a0 := by kernel_rfl
theorem gq36 (n : Nat) (a0 : (List (List (List Int)))) : g36 (evalF E (n + 1)) a0 = q36 (evalF E n) n a0 := by kernel_rfl
def L37_0 : LH := ⟨[0, 6, 14, 15, 16], ⟨[.dat (.slice (.slice (.int .u8))), .ref 0, .dat (.slice (.slice (.int .u8))), .dat (.int .i64), .dat (.int .i64)], [.row (.int .i64)]⟩, 0⟩
noncomputable def b37_0 : Code := codeAt c37 [1, 1, 0, 1, 0, 0]
noncomputable def lq37_0 (call : CallFn E) (n m : Nat) (y : (List (List Int)) × (List (List Int)) × Int × Int × (List Int)) : Option (((List (List Int)) × (List (List Int)) × Int × Int × (List Int)) ⊕ ((List Int) × Bool)) := loopAt (ctxOf E call n s37 Try.f37 hs37) b37_0 [0, 1, 0, 1, 1] L37_0 m y
theorem lp37_0 (call : CallFn E) (n m : Nat) (y : (List (List Int)) × (List (List Int)) × Int × Int × (List Int)) : lq37_0 call n (m + 1) y = F37_0 (g49 call)  (lq37_0 call n m) y := by kernel_rfl
noncomputable def q37 (call : CallFn E) (n : Nat) (a0 : (List (List Int))) (a1 : (List (List Int))) : Option ((List Int) × Bool) := runHow E call n s37 (a0, a1) h37
theorem rr37 (call : CallFn E) (n : Nat) (a0 : (List (List Int))) (a1 : (List (List Int))) : q37 call n a0 a1 = r37 (g49 call) (lq37_0 call n n) a0 a1 := by kernel_rfl
theorem gq37 (n : Nat) (a0 : (List (List Int))) (a1 : (List (List Int))) : g37 (evalF E (n + 1)) a0 a1 = q37 (evalF E n) n a0 a1 := by kernel_rfl
noncomputable def q38 (call : CallFn E) (n : Nat) (a0 : (List Int)) (a1 : Int) : Option (Bool) := runHow E call n s38 (a0, a1) h38
theorem rr38 (call : CallFn E) (n : Nat) (a0 : (List Int)) (a1 : Int) : q38 call n a0 a1 = r38   a0 a1 := by kernel_rfl
theorem gq38 (n : Nat) (a0 : (List Int)) (a1 : Int) : g38 (evalF E (n + 1)) a0 a1 = q38 (evalF E n) n a0 a1 := by kernel_rfl
noncomputable def q45 (call : CallFn E) (n : Nat) (a0 : (List Int)) (a1 : (List Int)) : Option (Int) := runHow E call n s45 (a0, a1) h45
theorem rr45 (call : CallFn E) (n : Nat) (a0 : (List Int)) (a1 : (List Int)) : q45 call n a0 a1 = r45 (g52 call)  a0 a1 := by kernel_rfl
theorem gq45 (n : Nat) (a0 : (List Int)) (a1 : (List Int)) : g45 (evalF E (n + 1)) a0 a1 = q45 (evalF E n) n a0 a1 := by kernel_rfl
noncomputable def q49 (call : CallFn E) (n : Nat) (a0 : (List (List Int))) (a1 : (List Int)) : Option (Int × Bool) := runHow E call n s49 (a0, a1) h49
theorem rr49 (call : CallFn E) (n : Nat) (a0 : (List (List Int))) (a1 : (List Int)) : q49 call n a0 a1 = r49 (g53 call)  a0 a1 := by kernel_rfl
theorem gq49 (n : Nat) (a0 : (List (List Int))) (a1 : (List Int)) : g49 (evalF E (n + 1)) a0 a1 = q49 (evalF E n) n a0 a1 := by kernel_rfl
def L53_0 : LH := ⟨[0, 1, 2, 8, 9, 10], ⟨[.dat (.slice (.slice (.int .u8))), .dat (.slice (.int .u8)), .fnc 45 [], .dat (.int .i64), .dat (.int .i64), .dat (.int .i64)], []⟩, 0⟩
noncomputable def b53_0 : Code := codeAt c53 [1, 1, 1, 0, 0, 0]
noncomputable def lq53_0 (call : CallFn E) (n m : Nat) (y : (List (List Int)) × (List Int) × Int × Int × Int) : Option (((List (List Int)) × (List Int) × Int × Int × Int) ⊕ (Int × Bool)) := loopAt (ctxOf E call n s53 Try.f53 hs53) b53_0 [0, 0, 1, 1, 1] L53_0 m y
theorem lp53_0 (call : CallFn E) (n m : Nat) (y : (List (List Int)) × (List Int) × Int × Int × Int) : lq53_0 call n (m + 1) y = F53_0 (g45 call)  (lq53_0 call n m) y := by kernel_rfl
noncomputable def q53 (call : CallFn E) (n : Nat) (a0 : (List (List Int))) (a1 : (List Int)) : Option (Int × Bool) := runHow E call n s53 (a0, a1) h53
theorem rr53 (call : CallFn E) (n : Nat) (a0 : (List (List Int))) (a1 : (List Int)) : q53 call n a0 a1 = r53 (g45 call) (lq53_0 call n n) a0 a1 := by kernel_rfl
theorem gq53 (n : Nat) (a0 : (List (List Int))) (a1 : (List Int)) : g53 (evalF E (n + 1)) a0 a1 = q53 (evalF E n) n a0 a1 := by kernel_rfl
def R29 : Nat → (List (List Int)) → Option (Bool)
  | 0, _ => none
  | n + 1, a0 => r29  (iter (F29_0  ) n) a0
def J29_0 (n m : Nat) : ((List (List Int)) × Int × Int) → Option (((List (List Int)) × Int × Int) ⊕ (Bool)) := iter (F29_0  ) m
theorem j29_0 (n m : Nat) (x : (List (List Int)) × Int × Int) : J29_0 n (m + 1) x = F29_0   (J29_0 n m) x := rfl
theorem u29 (n : Nat) (a0 : (List (List Int))) : R29 (n + 1) a0 = r29  (J29_0 n n) a0 := rfl
theorem e29 : ∀ (n : Nat), g29 (evalF E n) = R29 n
  | 0 => by funext a0; rfl
  | n + 1 => by
    have l0 : lq29_0 (evalF E n) n n = (iter (F29_0  ) n) := iter_of (g := lq29_0 (evalF E n) n) rfl (fun m y => by rw [lp29_0]) n
    funext a0
    rw [gq29, rr29]
    simp only [l0]
    rfl
def R11 : Nat → (List (Int × ((List (List Int)) × (List (List Int))))) → Option (Bool)
  | 0, _ => none
  | n + 1, a0 => r11 (R29 n) (iter (F11_0 (R29 n) ) n) a0
def J11_0 (n m : Nat) : (Int × (List (Int × ((List (List Int)) × (List (List Int))))) × Int × Int) → Option ((Int × (List (Int × ((List (List Int)) × (List (List Int))))) × Int × Int) ⊕ (Bool)) := iter (F11_0 (R29 n) ) m
theorem j11_0 (n m : Nat) (x : Int × (List (Int × ((List (List Int)) × (List (List Int))))) × Int × Int) : J11_0 n (m + 1) x = F11_0 (R29 n)  (J11_0 n m) x := rfl
theorem u11 (n : Nat) (a0 : (List (Int × ((List (List Int)) × (List (List Int)))))) : R11 (n + 1) a0 = r11 (R29 n) (J11_0 n n) a0 := rfl
theorem e11 : ∀ (n : Nat), g11 (evalF E n) = R11 n
  | 0 => by funext a0; rfl
  | n + 1 => by
    have l0 : lq11_0 (evalF E n) n n = (iter (F11_0 (R29 n) ) n) := iter_of (g := lq11_0 (evalF E n) n) rfl (fun m y => by rw [lp11_0]; simp only [e29 n]) n
    funext a0
    rw [gq11, rr11]
    simp only [e29 n, l0]
    rfl
def R28 : Nat → Int → Int → Int → (List (Int × Int)) → Option (Int × Int × (List (Int × Int)))
  | 0, _, _, _, _ => none
  | n + 1, a0, a1, a2, a3 => r28  (iter (F28_0  ) n) a0 a1 a2 a3
def J28_0 (n m : Nat) : (Int × Int × Int × (List (Int × Int))) → Option ((Int × Int × Int × (List (Int × Int))) ⊕ (Int × Int × (List (Int × Int)))) := iter (F28_0  ) m
theorem j28_0 (n m : Nat) (x : Int × Int × Int × (List (Int × Int))) : J28_0 n (m + 1) x = F28_0   (J28_0 n m) x := rfl
theorem u28 (n : Nat) (a0 : Int) (a1 : Int) (a2 : Int) (a3 : (List (Int × Int))) : R28 (n + 1) a0 a1 a2 a3 = r28  (J28_0 n n) a0 a1 a2 a3 := rfl
theorem e28 : ∀ (n : Nat), g28 (evalF E n) = R28 n
  | 0 => by funext a0 a1 a2 a3; rfl
  | n + 1 => by
    have l0 : lq28_0 (evalF E n) n n = (iter (F28_0  ) n) := iter_of (g := lq28_0 (evalF E n) n) rfl (fun m y => by rw [lp28_0]) n
    funext a0 a1 a2 a3
    rw [gq28, rr28]
    simp only [l0]
    rfl
def R9 : Nat → Int → (List (Int × ((List (List Int)) × (List (List Int))))) → Option ((List (Int × Int)) × Int)
  | 0, _, _ => none
  | n + 1, a0, a1 => r9 (R11 n) (R28 n) (iter (F9_0 (R11 n) (R28 n) ) n) a0 a1
def J9_0 (n m : Nat) : (Int × (List (Int × ((List (List Int)) × (List (List Int))))) × Int × Int × (List (Int × Int)) × Int × Int) → Option ((Int × (List (Int × ((List (List Int)) × (List (List Int))))) × Int × Int × (List (Int × Int)) × Int × Int) ⊕ ((List (Int × Int)) × Int)) := iter (F9_0 (R11 n) (R28 n) ) m
theorem j9_0 (n m : Nat) (x : Int × (List (Int × ((List (List Int)) × (List (List Int))))) × Int × Int × (List (Int × Int)) × Int × Int) : J9_0 n (m + 1) x = F9_0 (R11 n) (R28 n)  (J9_0 n m) x := rfl
theorem u9 (n : Nat) (a0 : Int) (a1 : (List (Int × ((List (List Int)) × (List (List Int)))))) : R9 (n + 1) a0 a1 = r9 (R11 n) (R28 n) (J9_0 n n) a0 a1 := rfl
theorem e9 : ∀ (n : Nat), g9 (evalF E n) = R9 n
  | 0 => by funext a0 a1; rfl
  | n + 1 => by
    have l0 : lq9_0 (evalF E n) n n = (iter (F9_0 (R11 n) (R28 n) ) n) := iter_of (g := lq9_0 (evalF E n) n) rfl (fun m y => by rw [lp9_0]; simp only [e11 n, e28 n]) n
    funext a0 a1
    rw [gq9, rr9]
    simp only [e11 n, e28 n, l0]
    rfl
def R39 : Nat → (List Int) → Option ((List Int))
  | 0, _ => none
  | _ + 1, a0 => NameX.cloneB a0
theorem e39 (n : Nat) : g39 (evalF E n) = R39 n := by cases n <;> rfl
def R43 : Nat → (List (List Int)) → Option ((List (List Int)))
  | 0, _ => none
  | _ + 1, a0 => NameX.cloneR a0
theorem e43 (n : Nat) : g43 (evalF E n) = R43 n := by cases n <;> rfl
def R44 : Nat → (List (List Int)) → Option ((List (List Int)))
  | 0, _ => none
  | _ + 1, a0 => NameX.sortR a0
theorem e44 (n : Nat) : g44 (evalF E n) = R44 n := by cases n <;> rfl
def R46 : Nat → (List (List Int)) → Option ((List (List Int)))
  | 0, _ => none
  | _ + 1, a0 => NameX.compactR a0
theorem e46 (n : Nat) : g46 (evalF E n) = R46 n := by cases n <;> rfl
def R35 : Nat → (List (List Int)) → Option ((List (List Int)))
  | 0, _ => none
  | n + 1, a0 => r35 (R39 n) (R43 n) (R44 n) (R46 n) (iter (F35_0 (R39 n) (R43 n) (R44 n) (R46 n) ) n) a0
def J35_0 (n m : Nat) : (Int × Int × (List (List Int)) × (List (List Int))) → Option ((Int × Int × (List (List Int)) × (List (List Int))) ⊕ ((List (List Int)))) := iter (F35_0 (R39 n) (R43 n) (R44 n) (R46 n) ) m
theorem j35_0 (n m : Nat) (x : Int × Int × (List (List Int)) × (List (List Int))) : J35_0 n (m + 1) x = F35_0 (R39 n) (R43 n) (R44 n) (R46 n)  (J35_0 n m) x := rfl
theorem u35 (n : Nat) (a0 : (List (List Int))) : R35 (n + 1) a0 = r35 (R39 n) (R43 n) (R44 n) (R46 n) (J35_0 n n) a0 := rfl
theorem e35 : ∀ (n : Nat), g35 (evalF E n) = R35 n
  | 0 => by funext a0; rfl
  | n + 1 => by
    have l0 : lq35_0 (evalF E n) n n = (iter (F35_0 (R39 n) (R43 n) (R44 n) (R46 n) ) n) := iter_of (g := lq35_0 (evalF E n) n) rfl (fun m y => by rw [lp35_0]; simp only [e39 n, e43 n, e44 n, e46 n]) n
    funext a0
    rw [gq35, rr35]
    simp only [e39 n, e43 n, e44 n, e46 n, l0]
    rfl
def R48 : Nat → Int → (List (List Int)) → Option ((List (List Int)))
  | 0, _, _ => none
  | _ + 1, a0, a1 => NameX.growR (a0, a1)
theorem e48 (n : Nat) : g48 (evalF E n) = R48 n := by cases n <;> rfl
def R36 : Nat → (List (List (List Int))) → Option ((List (List Int)))
  | 0, _ => none
  | n + 1, a0 => r36 (R48 n) (iter (F36_0 (R48 n) ) n) (iter (F36_1 (R48 n) ) n) a0
def J36_1 (n m : Nat) : ((List (List (List Int))) × Int × Int × (List (List Int))) → Option (((List (List (List Int))) × Int × Int × (List (List Int))) ⊕ ((List (List Int)))) := iter (F36_1 (R48 n) ) m
theorem j36_1 (n m : Nat) (x : (List (List (List Int))) × Int × Int × (List (List Int))) : J36_1 n (m + 1) x = F36_1 (R48 n)  (J36_1 n m) x := rfl
def J36_0 (n m : Nat) : ((List (List (List Int))) × Int × (List (List (List Int))) × Int × Int) → Option (((List (List (List Int))) × Int × (List (List (List Int))) × Int × Int) ⊕ ((List (List Int)))) := iter (F36_0 (R48 n) ) m
theorem j36_0 (n m : Nat) (x : (List (List (List Int))) × Int × (List (List (List Int))) × Int × Int) : J36_0 n (m + 1) x = F36_0 (R48 n)  (J36_0 n m) x := rfl
theorem u36 (n : Nat) (a0 : (List (List (List Int)))) : R36 (n + 1) a0 = r36 (R48 n) (J36_0 n n) (J36_1 n n) a0 := rfl
theorem e36 : ∀ (n : Nat), g36 (evalF E n) = R36 n
  | 0 => by funext a0; rfl
  | n + 1 => by
    have l1 : lq36_1 (evalF E n) n n = (iter (F36_1 (R48 n) ) n) := iter_of (g := lq36_1 (evalF E n) n) rfl (fun m y => by rw [lp36_1]; simp only [e48 n]) n
    have l0 : lq36_0 (evalF E n) n n = (iter (F36_0 (R48 n) ) n) := iter_of (g := lq36_0 (evalF E n) n) rfl (fun m y => by rw [lp36_0]; simp only [e48 n]) n
    funext a0
    rw [gq36, rr36]
    simp only [e48 n, l0, l1]
    rfl
def R52 : Nat → (List Int) → (List Int) → Option (Int)
  | 0, _, _ => none
  | _ + 1, a0, a1 => NameX.cmpB (a0, a1)
theorem e52 (n : Nat) : g52 (evalF E n) = R52 n := by cases n <;> rfl
def R45 : Nat → (List Int) → (List Int) → Option (Int)
  | 0, _, _ => none
  | n + 1, a0, a1 => r45 (R52 n)  a0 a1
theorem u45 (n : Nat) (a0 : (List Int)) (a1 : (List Int)) : R45 (n + 1) a0 a1 = r45 (R52 n)  a0 a1 := rfl
theorem e45 : ∀ (n : Nat), g45 (evalF E n) = R45 n
  | 0 => by funext a0 a1; rfl
  | n + 1 => by
    funext a0 a1
    rw [gq45, rr45]
    simp only [e52 n]
    rfl
def R53 : Nat → (List (List Int)) → (List Int) → Option (Int × Bool)
  | 0, _, _ => none
  | n + 1, a0, a1 => r53 (R45 n) (iter (F53_0 (R45 n) ) n) a0 a1
def J53_0 (n m : Nat) : ((List (List Int)) × (List Int) × Int × Int × Int) → Option (((List (List Int)) × (List Int) × Int × Int × Int) ⊕ (Int × Bool)) := iter (F53_0 (R45 n) ) m
theorem j53_0 (n m : Nat) (x : (List (List Int)) × (List Int) × Int × Int × Int) : J53_0 n (m + 1) x = F53_0 (R45 n)  (J53_0 n m) x := rfl
theorem u53 (n : Nat) (a0 : (List (List Int))) (a1 : (List Int)) : R53 (n + 1) a0 a1 = r53 (R45 n) (J53_0 n n) a0 a1 := rfl
theorem e53 : ∀ (n : Nat), g53 (evalF E n) = R53 n
  | 0 => by funext a0 a1; rfl
  | n + 1 => by
    have l0 : lq53_0 (evalF E n) n n = (iter (F53_0 (R45 n) ) n) := iter_of (g := lq53_0 (evalF E n) n) rfl (fun m y => by rw [lp53_0]; simp only [e45 n]) n
    funext a0 a1
    rw [gq53, rr53]
    simp only [e45 n, l0]
    rfl
def R49 : Nat → (List (List Int)) → (List Int) → Option (Int × Bool)
  | 0, _, _ => none
  | n + 1, a0, a1 => r49 (R53 n)  a0 a1
theorem u49 (n : Nat) (a0 : (List (List Int))) (a1 : (List Int)) : R49 (n + 1) a0 a1 = r49 (R53 n)  a0 a1 := rfl
theorem e49 : ∀ (n : Nat), g49 (evalF E n) = R49 n
  | 0 => by funext a0 a1; rfl
  | n + 1 => by
    funext a0 a1
    rw [gq49, rr49]
    simp only [e53 n]
    rfl
def R37 : Nat → (List (List Int)) → (List (List Int)) → Option ((List Int) × Bool)
  | 0, _, _ => none
  | n + 1, a0, a1 => r37 (R49 n) (iter (F37_0 (R49 n) ) n) a0 a1
def J37_0 (n m : Nat) : ((List (List Int)) × (List (List Int)) × Int × Int × (List Int)) → Option (((List (List Int)) × (List (List Int)) × Int × Int × (List Int)) ⊕ ((List Int) × Bool)) := iter (F37_0 (R49 n) ) m
theorem j37_0 (n m : Nat) (x : (List (List Int)) × (List (List Int)) × Int × Int × (List Int)) : J37_0 n (m + 1) x = F37_0 (R49 n)  (J37_0 n m) x := rfl
theorem u37 (n : Nat) (a0 : (List (List Int))) (a1 : (List (List Int))) : R37 (n + 1) a0 a1 = r37 (R49 n) (J37_0 n n) a0 a1 := rfl
theorem e37 : ∀ (n : Nat), g37 (evalF E n) = R37 n
  | 0 => by funext a0 a1; rfl
  | n + 1 => by
    have l0 : lq37_0 (evalF E n) n n = (iter (F37_0 (R49 n) ) n) := iter_of (g := lq37_0 (evalF E n) n) rfl (fun m y => by rw [lp37_0]; simp only [e49 n]) n
    funext a0 a1
    rw [gq37, rr37]
    simp only [e49 n, l0]
    rfl
def R24 : Nat → (List (List Int)) → (List (List Int)) → Option ((List Int) × (List Int) × Int)
  | 0, _, _ => none
  | n + 1, a0, a1 => r24 (R35 n) (R36 n) (R37 n)  a0 a1
theorem u24 (n : Nat) (a0 : (List (List Int))) (a1 : (List (List Int))) : R24 (n + 1) a0 a1 = r24 (R35 n) (R36 n) (R37 n)  a0 a1 := rfl
theorem e24 : ∀ (n : Nat), g24 (evalF E n) = R24 n
  | 0 => by funext a0 a1; rfl
  | n + 1 => by
    funext a0 a1
    rw [gq24, rr24]
    simp only [e35 n, e36 n, e37 n]
    rfl
def R38 : Nat → (List Int) → Int → Option (Bool)
  | 0, _, _ => none
  | n + 1, a0, a1 => r38   a0 a1
theorem u38 (n : Nat) (a0 : (List Int)) (a1 : Int) : R38 (n + 1) a0 a1 = r38   a0 a1 := rfl
theorem e38 : ∀ (n : Nat), g38 (evalF E n) = R38 n
  | 0 => by funext a0 a1; rfl
  | n + 1 => by
    funext a0 a1
    rw [gq38, rr38]
    rfl
def R25 : Nat → (List Int) → (List Int) → (List (Int × Int)) → Option (Bool)
  | 0, _, _, _ => none
  | n + 1, a0, a1, a2 => r25 (R38 n) (iter (F25_0 (R38 n) ) n) a0 a1 a2
def J25_0 (n m : Nat) : ((List Int) × (List Int) × (List (Int × Int)) × Int × Int × (Int × Int)) → Option (((List Int) × (List Int) × (List (Int × Int)) × Int × Int × (Int × Int)) ⊕ (Bool)) := iter (F25_0 (R38 n) ) m
theorem j25_0 (n m : Nat) (x : (List Int) × (List Int) × (List (Int × Int)) × Int × Int × (Int × Int)) : J25_0 n (m + 1) x = F25_0 (R38 n)  (J25_0 n m) x := rfl
theorem u25 (n : Nat) (a0 : (List Int)) (a1 : (List Int)) (a2 : (List (Int × Int))) : R25 (n + 1) a0 a1 a2 = r25 (R38 n) (J25_0 n n) a0 a1 a2 := rfl
theorem e25 : ∀ (n : Nat), g25 (evalF E n) = R25 n
  | 0 => by funext a0 a1 a2; rfl
  | n + 1 => by
    have l0 : lq25_0 (evalF E n) n n = (iter (F25_0 (R38 n) ) n) := iter_of (g := lq25_0 (evalF E n) n) rfl (fun m y => by rw [lp25_0]; simp only [e38 n]) n
    funext a0 a1 a2
    rw [gq25, rr25]
    simp only [e38 n, l0]
    rfl
def R27 : Nat → (List (List Int)) → Option ((List (List Int)))
  | 0, _ => none
  | n + 1, a0 => r27 (R39 n) (iter (F27_0 (R39 n) ) n) a0
def J27_0 (n m : Nat) : ((List (List Int)) × Int × Int × (List (List Int))) → Option (((List (List Int)) × Int × Int × (List (List Int))) ⊕ ((List (List Int)))) := iter (F27_0 (R39 n) ) m
theorem j27_0 (n m : Nat) (x : (List (List Int)) × Int × Int × (List (List Int))) : J27_0 n (m + 1) x = F27_0 (R39 n)  (J27_0 n m) x := rfl
theorem u27 (n : Nat) (a0 : (List (List Int))) : R27 (n + 1) a0 = r27 (R39 n) (J27_0 n n) a0 := rfl
theorem e27 : ∀ (n : Nat), g27 (evalF E n) = R27 n
  | 0 => by funext a0; rfl
  | n + 1 => by
    have l0 : lq27_0 (evalF E n) n n = (iter (F27_0 (R39 n) ) n) := iter_of (g := lq27_0 (evalF E n) n) rfl (fun m y => by rw [lp27_0]; simp only [e39 n]) n
    funext a0
    rw [gq27, rr27]
    simp only [e39 n, l0]
    rfl
def R26 : Nat → Int → Int → Int → Int → (List (Int × ((List (List Int)) × (List (List Int))))) → (List (List Int)) → (List (List Int)) → Option (Int × Int × (List (Int × ((List (List Int)) × (List (List Int))))) × (List (List Int)) × (List (List Int)))
  | 0, _, _, _, _, _, _, _ => none
  | n + 1, a0, a1, a2, a3, a4, a5, a6 => r26 (R27 n)  a0 a1 a2 a3 a4 a5 a6
theorem u26 (n : Nat) (a0 : Int) (a1 : Int) (a2 : Int) (a3 : Int) (a4 : (List (Int × ((List (List Int)) × (List (List Int)))))) (a5 : (List (List Int))) (a6 : (List (List Int))) : R26 (n + 1) a0 a1 a2 a3 a4 a5 a6 = r26 (R27 n)  a0 a1 a2 a3 a4 a5 a6 := rfl
theorem e26 : ∀ (n : Nat), g26 (evalF E n) = R26 n
  | 0 => by funext a0 a1 a2 a3 a4 a5 a6; rfl
  | n + 1 => by
    funext a0 a1 a2 a3 a4 a5 a6
    rw [gq26, rr26]
    simp only [e27 n]
    rfl
def R8 : Nat → (List (List Int)) → (List (List Int)) → (List (Int × Int)) → Option ((List (Int × ((List (List Int)) × (List (List Int))))) × Int)
  | 0, _, _, _ => none
  | n + 1, a0, a1, a2 => r8 (R24 n) (R25 n) (R26 n) (iter (F8_0 (R24 n) (R25 n) (R26 n) ) n) a0 a1 a2
def J8_0 (n m : Nat) : ((List (Int × Int)) × Int × Int × (List (List Int)) × (List (List Int)) × (List (Int × ((List (List Int)) × (List (List Int))))) × Int × Int) → Option (((List (Int × Int)) × Int × Int × (List (List Int)) × (List (List Int)) × (List (Int × ((List (List Int)) × (List (List Int))))) × Int × Int) ⊕ ((List (Int × ((List (List Int)) × (List (List Int))))) × Int)) := iter (F8_0 (R24 n) (R25 n) (R26 n) ) m
theorem j8_0 (n m : Nat) (x : (List (Int × Int)) × Int × Int × (List (List Int)) × (List (List Int)) × (List (Int × ((List (List Int)) × (List (List Int))))) × Int × Int) : J8_0 n (m + 1) x = F8_0 (R24 n) (R25 n) (R26 n)  (J8_0 n m) x := rfl
theorem u8 (n : Nat) (a0 : (List (List Int))) (a1 : (List (List Int))) (a2 : (List (Int × Int))) : R8 (n + 1) a0 a1 a2 = r8 (R24 n) (R25 n) (R26 n) (J8_0 n n) a0 a1 a2 := rfl
theorem e8 : ∀ (n : Nat), g8 (evalF E n) = R8 n
  | 0 => by funext a0 a1 a2; rfl
  | n + 1 => by
    have l0 : lq8_0 (evalF E n) n n = (iter (F8_0 (R24 n) (R25 n) (R26 n) ) n) := iter_of (g := lq8_0 (evalF E n) n) rfl (fun m y => by rw [lp8_0]; simp only [e24 n, e25 n, e26 n]) n
    funext a0 a1 a2
    rw [gq8, rr8]
    simp only [e24 n, e25 n, e26 n, l0]
    rfl
def R17 : Nat → (List (Int × ((List (List Int)) × (List (List Int))))) → Option (Int × Int)
  | 0, _ => none
  | n + 1, a0 => r17  (iter (F17_0  ) n) a0
def J17_0 (n m : Nat) : (Int × Int × (List (Int × ((List (List Int)) × (List (List Int))))) × Int × Int) → Option ((Int × Int × (List (Int × ((List (List Int)) × (List (List Int))))) × Int × Int) ⊕ (Int × Int)) := iter (F17_0  ) m
theorem j17_0 (n m : Nat) (x : Int × Int × (List (Int × ((List (List Int)) × (List (List Int))))) × Int × Int) : J17_0 n (m + 1) x = F17_0   (J17_0 n m) x := rfl
theorem u17 (n : Nat) (a0 : (List (Int × ((List (List Int)) × (List (List Int)))))) : R17 (n + 1) a0 = r17  (J17_0 n n) a0 := rfl
theorem e17 : ∀ (n : Nat), g17 (evalF E n) = R17 n
  | 0 => by funext a0; rfl
  | n + 1 => by
    have l0 : lq17_0 (evalF E n) n n = (iter (F17_0  ) n) := iter_of (g := lq17_0 (evalF E n) n) rfl (fun m y => by rw [lp17_0]) n
    funext a0
    rw [gq17, rr17]
    simp only [l0]
    rfl
def R10 : Nat → Unit → Option (Bool)
  | 0, _ => none
  | n + 1, u => r10 (R8 n) (R9 n) (R11 n) (R17 n)  u
theorem u10 (n : Nat) (_ : Unit) : R10 (n + 1) () = r10 (R8 n) (R9 n) (R11 n) (R17 n)  () := rfl
theorem e10 : ∀ (n : Nat), g10 (evalF E n) = R10 n
  | 0 => by funext u; rfl
  | n + 1 => by
    funext u
    rw [gq10, rr10]
    simp only [e8 n, e9 n, e11 n, e17 n]
    rfl
def R12 : Nat → (List (Int × Int)) → (List (Int × Int)) → Option (Bool)
  | 0, _, _ => none
  | n + 1, a0, a1 => r12  (iter (F12_0  ) n) a0 a1
def J12_0 (n m : Nat) : ((List (Int × Int)) × (List (Int × Int)) × Int) → Option (((List (Int × Int)) × (List (Int × Int)) × Int) ⊕ (Bool)) := iter (F12_0  ) m
theorem j12_0 (n m : Nat) (x : (List (Int × Int)) × (List (Int × Int)) × Int) : J12_0 n (m + 1) x = F12_0   (J12_0 n m) x := rfl
theorem u12 (n : Nat) (a0 : (List (Int × Int))) (a1 : (List (Int × Int))) : R12 (n + 1) a0 a1 = r12  (J12_0 n n) a0 a1 := rfl
theorem e12 : ∀ (n : Nat), g12 (evalF E n) = R12 n
  | 0 => by funext a0 a1; rfl
  | n + 1 => by
    have l0 : lq12_0 (evalF E n) n n = (iter (F12_0  ) n) := iter_of (g := lq12_0 (evalF E n) n) rfl (fun m y => by rw [lp12_0]) n
    funext a0 a1
    rw [gq12, rr12]
    simp only [l0]
    rfl
def R13 : Nat → (List (List Int)) → Option (Bool)
  | 0, _ => none
  | n + 1, a0 => r13  (iter (F13_0  ) n) a0
def J13_0 (n m : Nat) : ((List (List Int)) × Int) → Option (((List (List Int)) × Int) ⊕ (Bool)) := iter (F13_0  ) m
theorem j13_0 (n m : Nat) (x : (List (List Int)) × Int) : J13_0 n (m + 1) x = F13_0   (J13_0 n m) x := rfl
theorem u13 (n : Nat) (a0 : (List (List Int))) : R13 (n + 1) a0 = r13  (J13_0 n n) a0 := rfl
theorem e13 : ∀ (n : Nat), g13 (evalF E n) = R13 n
  | 0 => by funext a0; rfl
  | n + 1 => by
    have l0 : lq13_0 (evalF E n) n n = (iter (F13_0  ) n) := iter_of (g := lq13_0 (evalF E n) n) rfl (fun m y => by rw [lp13_0]) n
    funext a0
    rw [gq13, rr13]
    simp only [l0]
    rfl
def R16 : Nat → (List (Int × ((List (List Int)) × (List (List Int))))) → Option (Bool)
  | 0, _ => none
  | n + 1, a0 => r16 (R13 n) (iter (F16_0 (R13 n) ) n) a0
def J16_0 (n m : Nat) : ((List (Int × ((List (List Int)) × (List (List Int))))) × Int) → Option (((List (Int × ((List (List Int)) × (List (List Int))))) × Int) ⊕ (Bool)) := iter (F16_0 (R13 n) ) m
theorem j16_0 (n m : Nat) (x : (List (Int × ((List (List Int)) × (List (List Int))))) × Int) : J16_0 n (m + 1) x = F16_0 (R13 n)  (J16_0 n m) x := rfl
theorem u16 (n : Nat) (a0 : (List (Int × ((List (List Int)) × (List (List Int)))))) : R16 (n + 1) a0 = r16 (R13 n) (J16_0 n n) a0 := rfl
theorem e16 : ∀ (n : Nat), g16 (evalF E n) = R16 n
  | 0 => by funext a0; rfl
  | n + 1 => by
    have l0 : lq16_0 (evalF E n) n n = (iter (F16_0 (R13 n) ) n) := iter_of (g := lq16_0 (evalF E n) n) rfl (fun m y => by rw [lp16_0]; simp only [e13 n]) n
    funext a0
    rw [gq16, rr16]
    simp only [e13 n, l0]
    rfl
def R19 : Nat → (List (Int × ((List (List Int)) × (List (List Int))))) → Option (Bool)
  | 0, _ => none
  | n + 1, a0 => r19  (iter (F19_0  (iter (F19_1  ) n) (iter (F19_2  ) n)) n) (iter (F19_1  ) n) (iter (F19_2  ) n) a0
def J19_1 (n m : Nat) : ((List (Int × ((List (List Int)) × (List (List Int))))) × Int × Int × (Int × ((List (List Int)) × (List (List Int))))) → Option (((List (Int × ((List (List Int)) × (List (List Int))))) × Int × Int × (Int × ((List (List Int)) × (List (List Int))))) ⊕ (Bool)) := iter (F19_1  ) m
theorem j19_1 (n m : Nat) (x : (List (Int × ((List (List Int)) × (List (List Int))))) × Int × Int × (Int × ((List (List Int)) × (List (List Int))))) : J19_1 n (m + 1) x = F19_1   (J19_1 n m) x := rfl
def J19_2 (n m : Nat) : ((List (Int × ((List (List Int)) × (List (List Int))))) × Int × Int × (Int × ((List (List Int)) × (List (List Int))))) → Option (((List (Int × ((List (List Int)) × (List (List Int))))) × Int × Int × (Int × ((List (List Int)) × (List (List Int))))) ⊕ (Bool)) := iter (F19_2  ) m
theorem j19_2 (n m : Nat) (x : (List (Int × ((List (List Int)) × (List (List Int))))) × Int × Int × (Int × ((List (List Int)) × (List (List Int))))) : J19_2 n (m + 1) x = F19_2   (J19_2 n m) x := rfl
def J19_0 (n m : Nat) : ((List (Int × ((List (List Int)) × (List (List Int))))) × Int) → Option (((List (Int × ((List (List Int)) × (List (List Int))))) × Int) ⊕ (Bool)) := iter (F19_0  (J19_1 n n) (J19_2 n n)) m
theorem j19_0 (n m : Nat) (x : (List (Int × ((List (List Int)) × (List (List Int))))) × Int) : J19_0 n (m + 1) x = F19_0  (J19_1 n n) (J19_2 n n) (J19_0 n m) x := rfl
theorem u19 (n : Nat) (a0 : (List (Int × ((List (List Int)) × (List (List Int)))))) : R19 (n + 1) a0 = r19  (J19_0 n n) (J19_1 n n) (J19_2 n n) a0 := rfl
theorem e19 : ∀ (n : Nat), g19 (evalF E n) = R19 n
  | 0 => by funext a0; rfl
  | n + 1 => by
    have l1 : lq19_1 (evalF E n) n n = (iter (F19_1  ) n) := iter_of (g := lq19_1 (evalF E n) n) rfl (fun m y => by rw [lp19_1]) n
    have l2 : lq19_2 (evalF E n) n n = (iter (F19_2  ) n) := iter_of (g := lq19_2 (evalF E n) n) rfl (fun m y => by rw [lp19_2]) n
    have l0 : lq19_0 (evalF E n) n n = (iter (F19_0  (iter (F19_1  ) n) (iter (F19_2  ) n)) n) := iter_of (g := lq19_0 (evalF E n) n) rfl (fun m y => by rw [lp19_0]; simp only [l1, l2]) n
    funext a0
    rw [gq19, rr19]
    simp only [l0, l1, l2]
    rfl
def R20 : Nat → Int → (List (Int × ((List (List Int)) × (List (List Int))))) → Option ((List (Int × Int)) × Int)
  | 0, _, _ => none
  | n + 1, a0, a1 => r20 (R19 n) (iter (F20_0 (R19 n) ) n) (iter (F20_1 (R19 n) (iter (F20_0 (R19 n) ) n)) n) a0 a1
def J20_0 (n m : Nat) : (Int × (List (Int × ((List (List Int)) × (List (List Int))))) × Int × Int × Int × Int × (List (Int × Int))) → Option ((Int × (List (Int × ((List (List Int)) × (List (List Int))))) × Int × Int × Int × Int × (List (Int × Int))) ⊕ ((List (Int × Int)) × Int)) := iter (F20_0 (R19 n) ) m
theorem j20_0 (n m : Nat) (x : Int × (List (Int × ((List (List Int)) × (List (List Int))))) × Int × Int × Int × Int × (List (Int × Int))) : J20_0 n (m + 1) x = F20_0 (R19 n)  (J20_0 n m) x := rfl
def J20_1 (n m : Nat) : (Int × (List (Int × ((List (List Int)) × (List (List Int))))) × Int × Int × Int × (List (Int × Int))) → Option ((Int × (List (Int × ((List (List Int)) × (List (List Int))))) × Int × Int × Int × (List (Int × Int))) ⊕ ((List (Int × Int)) × Int)) := iter (F20_1 (R19 n) (J20_0 n n)) m
theorem j20_1 (n m : Nat) (x : Int × (List (Int × ((List (List Int)) × (List (List Int))))) × Int × Int × Int × (List (Int × Int))) : J20_1 n (m + 1) x = F20_1 (R19 n) (J20_0 n n) (J20_1 n m) x := rfl
theorem u20 (n : Nat) (a0 : Int) (a1 : (List (Int × ((List (List Int)) × (List (List Int)))))) : R20 (n + 1) a0 a1 = r20 (R19 n) (J20_0 n n) (J20_1 n n) a0 a1 := rfl
theorem e20 : ∀ (n : Nat), g20 (evalF E n) = R20 n
  | 0 => by funext a0 a1; rfl
  | n + 1 => by
    have l0 : lq20_0 (evalF E n) n n = (iter (F20_0 (R19 n) ) n) := iter_of (g := lq20_0 (evalF E n) n) rfl (fun m y => by rw [lp20_0]; simp only [e19 n]) n
    have l1 : lq20_1 (evalF E n) n n = (iter (F20_1 (R19 n) (iter (F20_0 (R19 n) ) n)) n) := iter_of (g := lq20_1 (evalF E n) n) rfl (fun m y => by rw [lp20_1]; simp only [e19 n, l0]) n
    funext a0 a1
    rw [gq20, rr20]
    simp only [e19 n, l0, l1]
    rfl
def R6 : Nat → Int → (List (Int × ((List (List Int)) × (List (List Int))))) → Option (Bool)
  | 0, _, _ => none
  | n + 1, a0, a1 => r6 (R9 n) (R10 n) (R12 n) (R16 n) (R20 n)  a0 a1
theorem u6 (n : Nat) (a0 : Int) (a1 : (List (Int × ((List (List Int)) × (List (List Int)))))) : R6 (n + 1) a0 a1 = r6 (R9 n) (R10 n) (R12 n) (R16 n) (R20 n)  a0 a1 := rfl
theorem e6 : ∀ (n : Nat), g6 (evalF E n) = R6 n
  | 0 => by funext a0 a1; rfl
  | n + 1 => by
    funext a0 a1
    rw [gq6, rr6]
    simp only [e9 n, e10 n, e12 n, e16 n, e20 n]
    rfl
theorem law_R (n : Nat) (a0 : Int) (a1 : (List (Int × ((List (List Int)) × (List (List Int)))))) : runHow E (evalF E n) n s6 (a0, a1) h6 = R6 (n + 1) a0 a1 := (gq6 n a0 a1).symm.trans (congrFun (congrFun (e6 (n + 1)) a0) a1)
theorem okAll : EntriesOK Try.prog NoX 0 E.fns := ⟨trivial,
  trivial,
  trivial,
  trivial,
  trivial,
  trivial,
  ok6 NoX,
  trivial,
  ok8 NoX,
  ok9 NoX,
  ok10 NoX,
  ok11 NoX,
  ok12 NoX,
  ok13 NoX,
  trivial,
  trivial,
  ok16 NoX,
  ok17 NoX,
  trivial,
  ok19 NoX,
  ok20 NoX,
  trivial,
  trivial,
  trivial,
  ok24 NoX,
  ok25 NoX,
  ok26 NoX,
  ok27 NoX,
  ok28 NoX,
  ok29 NoX,
  trivial,
  trivial,
  trivial,
  trivial,
  trivial,
  ok35 NoX,
  ok36 NoX,
  ok37 NoX,
  ok38 NoX,
  fun _ _ _ h => NameX.Clone_spec h,
  trivial,
  trivial,
  trivial,
  fun _ _ _ h => NameX.CloneR_spec h,
  fun _ _ _ h => NameX.SortR_spec h,
  ok45 NoX,
  fun _ _ _ h => NameX.CompactR_spec h,
  trivial,
  fun _ _ _ h => NameX.GrowR_spec h,
  ok49 NoX,
  trivial,
  trivial,
  fun _ _ _ h => NameX.Compare_spec h,
  ok53 NoX, trivial⟩
theorem mixed : Try.prog.follows .mixedOrders = true := by kernel_rfl
theorem calls (n : Nat) : CallOK Try.prog NoX E (evalF E n) := evalF_sound NoX_ok tys mixed (entries_fn okAll) n
end Go.Proofs.Ytpcnidiealmgfaa.EEditPairs
